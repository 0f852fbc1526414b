/- the abstract machine -/
import Derived.Test.YtommijghjlikkaaGreatBmFz
import Derived.ArgAppend
import Derived.LoopN
set_option linter.unusedVariables false
set_option linter.unusedSimpArgs false
namespace Go.Bm
open Go.RowKit
section
variable {P:Program} {C:Cfg} {ρ:Env} {w:World} {R:Type} {Z:Base} {tm:List TV} {aB:List (Nat×Box)} {aC:List (Nat×Row)} {tmps:Array Value}
theorem Ya:∀{l:List (Nat×Nat)} {cs:List AC},I4 l cs=true->cs=Mr l
 |[],[],_=>rfl
 |(k,o)::l,a::cs,h=>by
  cases a<;>simp only[I4]at h<;>try (simp at h;done)
  simp only[aj]at h;rw[ac h.1.1,ac h.1.2,Ya h.2];rfl
 |[],_::_,h=>by simp[I4]at h
 |_::_,[],h=>by simp[I4]at h
structure Built (aC : List (Nat × Row)) (rl : Nat -> Nat) : Prop where
 rl:∀id r,Ac aC id=some r->rl id=r.l.length
def Seg (l:List AC) (i:Nat) (v:List AC):Prop:=∀j,j<v.length->nth .dead l (i+j)=nth .dead v j
theorem Seg.left {l:List AC} {i:Nat} {v u:List AC} (h:Seg l i (v++u)):Seg l i v:=λj hj=>by
 rw[h j (by simp;omega),B3,B3,List.getD,List.getD,List.getElem?_append_left hj]
theorem Seg.right {l:List AC} {i:Nat} {v u:List AC} (h:Seg l i (v++u)):Seg l (i+v.length) u:=λj hj=>by
 rw[Nat.add_assoc,h (v.length+j) (by simp;omega),B3,B3,List.getD,List.getD,List.getElem?_append_right (by omega)];simp
theorem Seg.one {l:List AC} {i:Nat} {a:AC} (h:Seg l i [a]):nth .dead l i=a:=h 0 (by simp)
theorem Seg.all (l:List AC):Seg l 0 l:=λj _=>by rw[Nat.zero_add]
theorem Zdz {rl:Nat->Nat} (hrl:Built aC rl) {c:CS} {a:AC} {v:List AC} (h:JQ c a=some v) {l:List AC} {i:Nat} (hs:Seg l i v):
  (D_ rl l c i).2=i+v.length/\∀x,AC.wf aB aC a->CC ρ w a x->CC ρ w (D_ rl l c i).1 x:=by
 cases c<;>cases a<;>simp only[JQ]at h<;>try (simp at h;done)
 case any.dead=>simp at h;subst h;exact⟨rfl,λx _ h=>h.one⟩
 case any.int=>simp at h;subst h;exact⟨rfl,λx _ h=>h.one⟩
 case any.bool=>simp at h;subst h;exact⟨rfl,λx _ h=>h.one⟩
 case any.raw=>simp at h;subst h;exact⟨rfl,λx _ h=>h.one⟩
 case any.nilSl=>simp at h;subst h;exact⟨rfl,λx _ h=>h.one⟩
 case any.ptr=>simp at h;subst h;exact⟨rfl,λx _ h=>h.one⟩
 case any.own=>simp at h;subst h;exact⟨rfl,λx _ h=>h.one⟩
 case any.view=>simp at h;subst h;exact⟨rfl,λx _ h=>h.one⟩
 case any.rptr=>simp at h;subst h;exact⟨rfl,λx _ h=>h.one⟩
 case any.vptr=>simp at h;subst h;exact⟨rfl,λx _ h=>h.one⟩
 case any.clo=>simp at h;subst h;exact⟨rfl,λx _ h=>h.one⟩
 case any.bsl=>simp at h;subst h;exact⟨rfl,λx _ h=>h.one⟩
 case int.int k k' n=>
  cases hk:kEq k k'<;>rw[hk]at h
  ·simp at h
  ·simp at h;subst h;rw[<-NV hk];refine⟨rfl,λx _ h=> ?_⟩;simp only[D_,hs.one,Af];exact h
 case bool.bool b=>
  simp at h;subst h;refine⟨rfl,λx _ h=> ?_⟩;simp only[D_,hs.one,Dl];exact h
 case sl.nilSl ks=>
  simp at h;subst h;refine⟨rfl,λx _ h=> ?_⟩;simp only[CC,CP]at h;subst h;simp only[D_,hs.one,BS];exact RO ks
 case sl.view ks ks' l=>
  cases hk:C6 ks ks'<;>rw[hk]at h
  ·simp at h
  ·simp at h;subst h;rw[<-I7 hk];refine⟨rfl,λx _ h=> ?_⟩;simp only[D_,hs.one,BS];exact h
 case rawc.raw v=>
  simp at h;subst h;refine⟨rfl,λx _ h=> ?_⟩;simp only[D_,hs.one];exact h
 case nil.nilSl=>simp at h;subst h;exact⟨rfl,λx _ h=>h⟩
 case ptr.ptr k o k' o'=>
  cases hk:(Nat.beq k k'&&Nat.beq o o')<;>rw[hk]at h
  ·simp at h
  ·simp at h;subst h;simp only[aj]at hk;rw[<-ac hk.1,<-ac hk.2];exact⟨rfl,λx _ h=>h⟩
 case bsl.bsl k o k' o'=>
  cases hk:(Nat.beq k k'&&Nat.beq o o')<;>rw[hk]at h
  ·simp at h
  ·simp at h;subst h;simp only[aj]at hk;rw[<-ac hk.1,<-ac hk.2];exact⟨rfl,λx _ h=>h⟩
 case own.own id wd id' wd' n=>
  cases hk:(Nat.beq id id'&&Nat.beq wd wd')<;>rw[hk]at h
  ·simp at h
  ·simp at h;subst h;simp only[aj]at hk;rw[<-ac hk.1,<-ac hk.2];refine⟨rfl,λx hw h=> ?_⟩;obtain⟨r,h1,h2,h3⟩:=hw;show CC ρ w (.own id wd (rl id)) x;rw[hrl.rl id r h1];have:r.l.length=n:=h2;rw[this];exact h
 case clo.clo f fs cs f' fs' cs'=>
  cases hk:(Nat.beq f f'&&I4 fs fs'&&I4 cs cs')<;>rw[hk]at h
  ·simp at h
  ·simp at h;subst h;simp only[aj]at hk;rw[<-ac hk.1.1,Ya hk.1.2,Ya hk.2];exact⟨rfl,λx _ h=>h⟩
theorem S2 {rl:Nat->Nat} (hrl:Built aC rl) {l:List AC}:∀{cs:List CS} {as:List AC} {v:List AC},G_ cs as=some v->∀{i},Seg l i v->
  (Eh rl l cs i).2=i+v.length/\(Eh rl l cs i).1.length=as.length/\∀xs,(∀a∈as,AC.wf aB aC a)->CL (CC ρ w) as xs->CL (CC ρ w) (Eh rl l cs i).1 xs
 |[],[],v,h,i,_=>by simp[G_]at h;subst h;exact⟨rfl,rfl,λxs _ h=>h⟩
 |c::cs,a::as,v,h,i,hs=>by
  simp only[G_]at h;split at h
  ·rename_i v1 h1;split at h
   ·rename_i v2 h2;simp at h;subst h;obtain⟨q1,q2⟩:=Zdz (ρ:=ρ) (w:=w) (aB:=aB) hrl h1 hs.left;obtain⟨p1,p3,p2⟩:=S2 hrl h2 hs.right;simp only[Eh];generalize hb:D_ rl l c i=q at q1 q2;obtain⟨b,i'⟩:=q;simp only at q1 q2;subst q1;refine⟨by simp only[p1,ao];omega,by simp[p3],λxs hw hx=> ?_⟩;cases xs with
    |nil=>exact hx.elim
    |cons x xs=>exact⟨q2 x (hw a (by simp)) hx.1,p2 xs (λb hb=>hw b (by simp[hb])) hx.2⟩
   ·simp at h
  ·simp at h
 |[],_::_,v,h,_,_=>by simp[G_]at h
 |_::_,[],v,h,_,_=>by simp[G_]at h
theorem Q66 {rl:Nat->Nat} (hrl:Built aC rl) {l:List AC}:∀{ps:List (Bool×List CS)} {qs:List (Bool×List AC)} {v:List AC},L9 ps qs=some v->∀{i},Seg l i v->
  (GD rl l ps i).2=i+v.length/\∀xs,(∀p∈qs,∀a∈p.2,AC.wf aB aC a)->TP ρ w qs xs->TP ρ w (GD rl l ps i).1 xs
 |[],[],v,h,i,_=>by simp[L9]at h;subst h;exact⟨rfl,λxs _ h=>h⟩
 |(g,cs)::ps,(g',as)::qs,v,h,i,hs=>by
  simp only[L9]at h;cases hg:(g==g')<;>rw[hg]at h
  ·simp at h
  ·simp only[ah]at h;have hg':g=g':=by simpa using hg
   subst hg';split at h
   ·rename_i v1 h1;split at h
    ·rename_i v2 h2;simp at h;subst h;obtain⟨q1,q3,q2⟩:=S2 (ρ:=ρ) (w:=w) (aB:=aB) hrl h1 hs.left;obtain⟨p1,p2⟩:=Q66 hrl h2 hs.right;simp only[GD];generalize hb:Eh rl l cs i=q at q1 q2 q3;obtain⟨b,i'⟩:=q;simp only at q1 q2 q3;subst q1;refine⟨by simp only[p1,ao];omega,λxs hw hx=> ?_⟩;cases xs with
     |nil=>exact hx.elim
     |cons x xs=>
      refine⟨?_,p2 xs (λp hp=>hw p (by simp[hp])) hx.2⟩;have hx1:=hx.1;have hw1:=hw (g,as) (by simp);cases g
      ·obtain⟨a,e1,e2⟩:=hx1;dsimp only at e1 hw1;subst e1;have:=q2 [x] hw1 ⟨e2,trivial⟩;cases b with
       |nil=>simp at q3
       |cons c b=>
        cases b with
        |nil=>exact⟨c,rfl,this.1⟩
        |cons=>simp at q3
      ·obtain⟨ys,e1,e2⟩:=hx1;exact⟨ys,e1,q2 _ hw1 e2⟩
    ·simp at h
   ·simp at h
 |[],_::_,v,h,_,_=>by simp[L9]at h
 |(_,_)::_,[],v,h,_,_=>by simp[L9]at h
theorem Z6t {rl:Nat->Nat} (hrl:Built aC rl) {t:TS} {u:TV} {v:List AC} (h:JF t u=some v) {l:List AC} {i:Nat} (hs:Seg l i v):
  (HU rl l t i).2=i+v.length/\∀x,TV.wf aB aC u->TVR ρ w u x->TVR ρ w (HU rl l t i).1 x:=by
 cases t with
 |dead=>simp[JF]at h;subst h;exact⟨rfl,λ_ _ _=>trivial⟩
 |v g cs=>
  cases u with
  |dead=>simp[JF]at h
  |tup=>simp[JF]at h
  |v g' as=>
   simp only[JF]at h;cases hg:(g==g')<;>rw[hg]at h
   ·simp at h
   ·simp only[ah]at h;have hg':g=g':=by simpa using hg
    subst hg';obtain⟨q1,q3,q2⟩:=S2 (ρ:=ρ) (w:=w) (aB:=aB) hrl h hs;simp only[HU];generalize hb:Eh rl l cs i=q at q1 q2 q3;obtain⟨b,i'⟩:=q;simp only at q1 q2 q3;refine⟨q1,λx hw hx=> ?_⟩;cases g
    ·obtain⟨a,rfl,e2⟩:=hx;have:=q2 [x] hw ⟨e2,trivial⟩;cases b with
     |nil=>simp at q3
     |cons c b=>
      cases b with
      |nil=>exact⟨c,rfl,this.1⟩
      |cons=>simp at q3
    ·obtain⟨ys,rfl,e2⟩:=hx;exact⟨ys,rfl,q2 _ hw e2⟩
 |tup ps=>
  cases u with
  |dead=>simp[JF]at h
  |v=>simp[JF]at h
  |tup qs=>
   simp only[JF]at h;obtain⟨q1,q2⟩:=Q66 (ρ:=ρ) (w:=w) (aB:=aB) hrl h hs;simp only[HU];generalize hb:GD rl l ps i=q at q1 q2;obtain⟨b,i'⟩:=q;simp only at q1 q2;exact⟨q1,λx hw ⟨ys,e1,e2⟩=>⟨ys,e1,q2 _ hw e2⟩⟩
theorem SJ {rl:Nat->Nat} (hrl:Built aC rl) {l:List AC}:∀{ts:List TS} {us:List TV} {v:List AC},Kv ts us=some v->∀{i},Seg l i v->
  (E0 rl l ts i).2=i+v.length/\(E0 rl l ts i).1.length=us.length/\∀(n:Nat) (b:TV),(E0 rl l ts i).1[n]? =some b->∃u,us[n]? =some u/\∀x,TV.wf aB aC u->TVR ρ w u x->TVR ρ w b x
 |[],[],v,h,i,_=>by simp[Kv]at h;subst h;exact⟨rfl,rfl,λi b h=>by simp[E0]at h⟩
 |t::ts,u::us,v,h,i,hs=>by
  simp only[Kv]at h;split at h
  ·rename_i v1 h1;split at h
   ·rename_i v2 h2;simp at h;subst h;obtain⟨q1,q2⟩:=Z6t (ρ:=ρ) (w:=w) (aB:=aB) hrl h1 hs.left;obtain⟨p1,p3,p2⟩:=SJ hrl h2 hs.right;simp only[E0];generalize hb:HU rl l t i=q at q1 q2;obtain⟨b,i'⟩:=q;simp only at q1 q2;subst q1;refine⟨by simp only[p1,ao];omega,by simp[p3],λn c hi=> ?_⟩;cases n with
    |zero=>simp at hi;subst hi;exact⟨u,rfl,q2⟩
    |succ n=>obtain⟨u',e1,e2⟩:=p2 n c (by simpa using hi);exact⟨u',by simpa using e1,e2⟩
   ·simp at h
  ·simp at h
 |[],_::_,v,h,_,_=>by simp[Kv]at h
 |_::_,[],v,h,_,_=>by simp[Kv]at h
theorem Q6w {rl:Nat->Nat} (hrl:Built aC rl) {l:List AC}:∀{bs:List (Nat×TypeId×List CS)} {v:List AC},Ka bs aB=some v->∀{i},Seg l i v->
  ∀k b,Ac (Fd rl l bs i) k=some b->k∈bs.map (·.1)/\∃b0,Ac aB k=some b0/\b.ty=b0.ty/\∀xs,(∀a∈b0.cells,AC.wf aB aC a)->CL (CC ρ w) b0.cells xs->CL (CC ρ w) b.cells xs
 |[],v,h,i,_,k,b,hk=>by simp[Fd,Ac]at hk
 |(j,t,cs)::bs,v,h,i,hs,k,b,hk=>by
  simp only[Ka]at h;split at h
  ·rename_i b0 hb0;cases ht:Nat.beq t b0.ty<;>rw[ht]at h
   ·simp at h
   ·simp only[ah]at h;split at h
    ·rename_i v1 h1;split at h
     ·rename_i v2 h2;simp at h;subst h;obtain⟨q1,q3,q2⟩:=S2 (ρ:=ρ) (w:=w) (aB:=aB) hrl h1 hs.left;simp only[Fd]at hk;generalize hb:Eh rl l cs i=q at q1 q2 q3 hk;obtain⟨c,i'⟩:=q;simp only at q1 q2 q3 hk;subst q1;simp only[Ac]at hk;cases hjk:Nat.beq j k<;>rw[hjk]at hk
      ·obtain⟨p1,p2⟩:=Q6w hrl h2 hs.right k b hk;exact⟨by simp at p1⊢;exact .inr p1,p2⟩
      ·have:=ac hjk;subst this;simp at hk;subst hk;exact⟨by simp,b0,hb0,ac ht,q2⟩
     ·simp at h
    ·simp at h
  ·simp at h
theorem Qrv {l:List AC}:∀{rs:List (Nat×TypeId×List Kd)} {v:List AC},Jq rs aC=some v->∀{i},Seg l i v->
  (G5 l rs i).2=i+v.length/\(∀id r,Ac (G5 l rs i).1 id=some r->Ac aC id=some r)/\∀id t ks,Ac rs id=some (t,ks)->∃r,Ac (G5 l rs i).1 id=some r/\r.ks=ks
 |[],v,h,i,_=>by simp[Jq]at h;subst h;exact⟨rfl,λid r h=>by simp[G5,Ac]at h,λid t ks h=>by simp[Ac]at h⟩
 |(k,t,ks)::rs,v,h,i,hs=>by
  simp only[Jq]at h;split at h
  ·rename_i r hr;cases hb:(Nat.beq t r.ty&&C6 ks r.ks)<;>rw[hb]at h
   ·simp at h
   ·simp only[ah]at h;simp only[aj]at hb;split at h
    ·rename_i vs hvs;simp at h;subst h;have hs':Seg l i ([.view ks r.l]++vs):=hs;obtain⟨q1,q2,q3⟩:=Qrv hvs (i:=i+1) hs'.right;simp only[G5,hs'.left.one,BS];generalize hB:G5 l rs (i+1)=q at q1 q2 q3;obtain⟨B,i'⟩:=q;simp only at q1 q2 q3;refine⟨by simp only[q1,bh];omega,λid r' hi=> ?_,λid t' ks' hi=> ?_⟩
     ·simp only[Ac]at hi;cases hk:Nat.beq k id<;>rw[hk]at hi
      ·exact q2 id r' hi
      ·have:=ac hk;subst this;simp at hi;subst hi;rw[hr,ac hb.1,I7 hb.2]
     ·simp only[Ac]at hi⊢;cases hk:Nat.beq k id<;>rw[hk]at hi
      ·simp only[an]at hi⊢;exact q3 id t' ks' hi
      ·simp at hi;obtain⟨_,rfl⟩:=hi;exact⟨_,rfl,rfl⟩
    ·simp at h
  ·simp at h
section names
variable {keys:List Nat} {rs:List (Nat×TypeId×List Kd)} {B':List (Nat×Box)} {R':List (Nat×Row)} {rl:Nat->Nat}
theorem Qft (hk:∀k∈keys,∃b,Ac B' k=some b):∀(l:List (Nat×Nat)),Ak (λp:Nat×Nat=>AP keys p.1) l=true->∀a∈Mr l,AC.wfP B' a
 |[],_,a,ha=>by simp[Mr]at ha
 |(k,o)::l,h,a,ha=>by
  have h1:=Ax.1 h;simp only[Mr,aq]at ha;rcases ha with rfl|ha
  ·exact hk k (EZ.1 (h1 (k,o) (by simp)))
  ·exact Qft hk l (Ax.2 λp hp=>h1 p (by simp[hp])) a ha
theorem Ze2 (hk:∀k∈keys,∃b,Ac B' k=some b) (hr:∀id t ks,Ac rs id=some (t,ks)->∃r,Ac R' id=some r/\r.ks=ks/\rl id=r.l.length) {c:CS} (hc:c.okB keys rs=true) (l:List AC) (i:Nat):AC.wf B' R' (D_ rl l c i).1:=by
 cases c<;>simp only[D_]<;>try trivial
 case rawc=>simp only[LU];split<;>trivial
 case ptr k o=>exact hk k (EZ.1 hc)
 case bsl k o=>exact hk k (EZ.1 hc)
 case own id wd=>
  simp only[CS.okB]at hc;split at hc
  ·rename_i t ks hl;obtain⟨r,h1,h2,h3⟩:=hr id t ks hl;refine⟨r,h1,h3.symm,?_⟩;show r.ks.length=wd;rw[h2];exact ac hc
  ·simp at hc
 case clo f fs cs=>
  simp only[CS.okB,aj]at hc;exact⟨Qft hk fs hc.1,Qft hk cs hc.2⟩
theorem R9 (hk:∀k∈keys,∃b,Ac B' k=some b) (hr:∀id t ks,Ac rs id=some (t,ks)->∃r,Ac R' id=some r/\r.ks=ks/\rl id=r.l.length):∀{cs:List CS},Ak (CS.okB keys rs) cs=true->∀(l:List AC) (i:Nat),∀a∈(Eh rl l cs i).1,AC.wf B' R' a
 |[],_,l,i,a,ha=>by simp[Eh]at ha
 |c::cs,h,l,i,a,ha=>by
  have h1:=Ax.1 h;simp only[Eh,aq]at ha;rcases ha with rfl|ha
  ·exact Ze2 hk hr (h1 c (by simp)) l i
  ·exact R9 hk hr (Ax.2 λc hc=>h1 c (by simp[hc])) l _ a ha
theorem Q5t (hk:∀k∈keys,∃b,Ac B' k=some b) (hr:∀id t ks,Ac rs id=some (t,ks)->∃r,Ac R' id=some r/\r.ks=ks/\rl id=r.l.length):∀{ps:List (Bool×List CS)},Ak (λp:Bool×List CS=>Ak (CS.okB keys rs) p.2) ps=true->∀(l:List AC) (i:Nat),∀p∈(GD rl l ps i).1,∀a∈p.2,AC.wf B' R' a
 |[],_,l,i,p,hp=>by simp[GD]at hp
 |(g,cs)::ps,h,l,i,p,hp=>by
  have h1:=Ax.1 h;simp only[GD,aq]at hp;rcases hp with rfl|hp
  ·exact R9 hk hr (h1 (g,cs) (by simp)) l i
  ·exact Q5t hk hr (Ax.2 λc hc=>h1 c (by simp[hc])) l _ p hp
theorem Zkx (hk:∀k∈keys,∃b,Ac B' k=some b) (hr:∀id t ks,Ac rs id=some (t,ks)->∃r,Ac R' id=some r/\r.ks=ks/\rl id=r.l.length) {t:TS} (ht:t.okB keys rs=true) (l:List AC) (i:Nat):TV.wf B' R' (HU rl l t i).1:=by
 cases t with
 |dead=>trivial
 |v g cs=>exact R9 hk hr ht l i
 |tup ps=>exact Q5t hk hr ht l i
theorem VG (hk:∀k∈keys,∃b,Ac B' k=some b) (hr:∀id t ks,Ac rs id=some (t,ks)->∃r,Ac R' id=some r/\r.ks=ks/\rl id=r.l.length):∀{ts:List TS},Ak (TS.okB keys rs) ts=true->∀(l:List AC) (i:Nat),∀v∈(E0 rl l ts i).1,TV.wf B' R' v
 |[],_,l,i,v,hv=>by simp[E0]at hv
 |t::ts,h,l,i,v,hv=>by
  have h1:=Ax.1 h;simp only[E0,aq]at hv;rcases hv with rfl|hv
  ·exact Zkx hk hr (h1 t (by simp)) l i
  ·exact VG hk hr (Ax.2 λc hc=>h1 c (by simp[hc])) l _ v hv
theorem Q1k (hk:∀k∈keys,∃b,Ac B' k=some b) (hr:∀id t ks,Ac rs id=some (t,ks)->∃r,Ac R' id=some r/\r.ks=ks/\rl id=r.l.length):∀{bs:List (Nat×TypeId×List CS)},Ak (λp:Nat×TypeId×List CS=>Ak (CS.okB keys rs) p.2.2) bs=true->∀(l:List AC) (i k:Nat) (b:Box),Ac (Fd rl l bs i) k=some b->∀a∈b.cells,AC.wf B' R' a
 |[],_,l,i,k,b,hb=>by simp[Fd,Ac]at hb
 |(j,t,cs)::bs,h,l,i,k,b,hb=>by
  have h1:=Ax.1 h;simp only[Fd,Ac]at hb;cases hj:Nat.beq j k<;>rw[hj]at hb
  ·exact Q1k hk hr (Ax.2 λc hc=>h1 c (by simp[hc])) l _ k b hb
  ·simp at hb;subst hb;exact R9 hk hr (h1 (j,t,cs) (by simp)) l i
end names
theorem Zan {rl:Nat->Nat} (l:List AC):∀(bs:List (Nat×TypeId×List CS)) (i k:Nat),k∈bs.map (·.1)->∃b,Ac (Fd rl l bs i) k=some b
 |[],_,k,h=>by simp at h
 |(j,t,cs)::bs,i,k,h=>by
  simp only[Fd,Ac];cases hj:Nat.beq j k
  ·have:k∈bs.map (·.1):=by
    simp only[bf,aq]at h;exact h.resolve_left λe=>Hq hj e.symm
   exact Zan l bs _ k this
  ·exact⟨_,rfl⟩
theorem RelE.rebuild {sk:Sk} {vars:List AC} (h:RelE Z tm aB aC ρ tmps w) (hZ:∀k b,Z.K0 k=some b->F3 k=true) (hok:sk.okB=true) (hr:Fx sk ⟨tm,aB,aC⟩=some vars):
  RelE Z (BA sk vars).tmps (BA sk vars).aB (BA sk vars).aC ρ tmps w:=by
 simp only[Fx]at hr;obtain ⟨hin, hr⟩ : Ak (λp : Nat × Box => !(F3 p.1) || AP (sk.aB.map (·.1)) p.1) aB = true /\ (match Jq sk.aC aC with
  |some a=>match Kv sk.tmps tm with
   |some b=>match Ka sk.aB aB with
    |some c=>some (a++(b++c))
    |none=>none
   |none=>none
  |none=>none)=some vars:=by
  revert hr
  generalize Ak (λp:Nat×Box=> !(F3 p.1)||AP (sk.aB.map (·.1)) p.1) aB=q;intro hr;cases q
  ·simp at hr
  ·exact⟨rfl,hr⟩
 split at hr
 ·rename_i va hva;split at hr
  ·rename_i vb hvb;split at hr
   ·rename_i vc hvc;simp at hr;subst hr;have hall:=Seg.all (va++(vb++vc));generalize hl:va++(vb++vc)=l at hall⊢;rw[<-hl]at hall;have hsa:Seg l 0 va:=by rw[<-hl];exact(Seg.all _).left
    have hsb:Seg l (0+va.length) vb:=by rw[<-hl];exact(Seg.all _).right.left
    have hsc:Seg l (0+va.length+vb.length) vc:=by rw[<-hl];exact(Seg.all _).right.right
    obtain⟨r1,r2,r3⟩:=Qrv hva hsa;simp only[BA];generalize hR:G5 l sk.aC 0=qr at r1 r2 r3;obtain⟨R',ir⟩:=qr;simp only at r1 r2 r3⊢;subst r1;have hdis:sk.okB=true:=hok;simp only[Sk.okB,aj]at hok;obtain⟨⟨⟨ok1,ok2⟩,ok3⟩,ok4⟩:=hok
    have hown:∀id r,Ac R' id=some r->D0 R' id=r.l.length:=λid r hl=>by simp only[D0,hl]
    have hkeys:∀k∈sk.aB.map (·.1),∃b,Ac (Fd (D0 R') l sk.aB (0+va.length+vb.length)) k=some b:=λk hk=>Zan l sk.aB _ k hk;have hrr:∀id t ks,Ac sk.aC id=some (t,ks)->∃r,Ac R' id=some r/\r.ks=ks/\D0 R' id=r.l.length:=λid t ks hl=>by
     obtain⟨r,q1,q2⟩:=r3 id t ks hl;exact⟨r,q1,q2,hown id r q1⟩
    let rl':Nat->Nat:=λid=>match Ac aC id with
     |some r=>r.l.length
     |none=>0
    have hbl:Built aC rl':=⟨λid r hl=>by simp only[rl',hl]⟩;have hsame:∀id t ks,Ac sk.aC id=some (t,ks)->rl' id=D0 R' id:=λid t ks hl=>by
     obtain⟨r,q1,_,q3⟩:=hrr id t ks hl;simp only[rl',r2 id r q1,q3]
    have eC:∀(c:CS) (i:Nat),c.okB (sk.aB.map (·.1)) sk.aC=true->D_ rl' l c i=D_ (D0 R') l c i:=by
     intro c i hc;cases c<;>try rfl
     rename_i id wd;simp only[CS.okB]at hc;split at hc
     ·rename_i t ks hl;simp only[D_,hsame id t ks hl]
     ·simp at hc
    have eCs:∀(cs:List CS) (i:Nat),Ak (CS.okB (sk.aB.map (·.1)) sk.aC) cs=true->Eh rl' l cs i=Eh (D0 R') l cs i:=by
     intro cs;induction cs with
     |nil=>intro i _;rfl
     |cons c cs ih=>
      intro i hc;have h1:=Ax.1 hc;simp only[Eh];rw[eC c i (h1 c (by simp))];rw[ih _ (Ax.2 λc hc=>h1 c (by simp[hc]))]
    have ePs:∀(ps:List (Bool×List CS)) (i:Nat),Ak (λp:Bool×List CS=>Ak (CS.okB (sk.aB.map (·.1)) sk.aC) p.2) ps=true->GD rl' l ps i=GD (D0 R') l ps i:=by
     intro ps;induction ps with
     |nil=>intro i _;rfl
     |cons p ps ih=>
      intro i hc;obtain⟨g,cs⟩:=p;have h1:=Ax.1 hc;simp only[GD];rw[eCs cs i (h1 (g,cs) (by simp))];rw[ih _ (Ax.2 λc hc=>h1 c (by simp[hc]))]
    have eT:∀(t:TS) (i:Nat),t.okB (sk.aB.map (·.1)) sk.aC=true->HU rl' l t i=HU (D0 R') l t i:=by
     intro t i ht;cases t with
     |dead=>rfl
     |v g cs=>simp only[HU];rw[eCs cs i ht]
     |tup ps=>simp only[HU];rw[ePs ps i ht]
    have eTs:∀(ts:List TS) (i:Nat),Ak (TS.okB (sk.aB.map (·.1)) sk.aC) ts=true->E0 rl' l ts i=E0 (D0 R') l ts i:=by
     intro ts;induction ts with
     |nil=>intro i _;rfl
     |cons c cs ih=>
      intro i hc;have h1:=Ax.1 hc;simp only[E0];rw[eT c i (h1 c (by simp))];rw[ih _ (Ax.2 λc hc=>h1 c (by simp[hc]))]
    have eBs:∀(bs:List (Nat×TypeId×List CS)) (i:Nat),Ak (λp:Nat×TypeId×List CS=>Ak (CS.okB (sk.aB.map (·.1)) sk.aC) p.2.2) bs=true->Fd rl' l bs i=Fd (D0 R') l bs i:=by
     intro bs;induction bs with
     |nil=>intro i _;rfl
     |cons p bs ih=>
      intro i hc;obtain⟨k,t,cs⟩:=p;have h1:=Ax.1 hc;simp only[Fd];rw[eCs cs i (h1 (k,t,cs) (by simp))];rw[ih _ (Ax.2 λc hc=>h1 c (by simp[hc]))]
    have hT:=SJ (ρ:=ρ) (w:=w) (aB:=aB) hbl hvb hsb;rw[eTs sk.tmps _ ok3]at hT;obtain⟨t1,t2,t3⟩:=hT;have tw:=VG (rl:=D0 R') hkeys hrr ok3 l (0+va.length);generalize hT':E0 (D0 R') l sk.tmps (0+va.length)=qt at t1 t2 t3 tw;obtain⟨T',it⟩:=qt;simp only at t1 t2 t3 tw⊢;subst t1;have hB:=Q6w (ρ:=ρ) (w:=w) hbl hvc hsc;rw[eBs sk.aB _ ok4]at hB;refine⟨by rw[t2];exact h.tl,λi v hi=> ?_,tw,Q1k hkeys hrr ok4 l _,λk b hk=> ?_,λk k' b b' hk hk' he=> ?_,λid r hi=>h.ro id r (r2 id r hi),λid id' r r' g hi hi'=>h.ri id id' r r' g (r2 id r hi) (r2 id' r' hi'),λk b id r hk hi=> ?_,λb hb=> ?_,h.fr,h.fs,h.i0,h.i1,λk b hk=> ?_⟩
    ·obtain⟨u,hu,hx⟩:=t3 i v hi;exact hx _ (h.wt u (bn hu)) (h.tv i u hu)
    ·obtain⟨_,b0,q1,q2,q3⟩:=hB k b hk;obtain⟨arr,p1,p2,p3⟩:=h.bx k b0 q1;exact⟨arr,by rw[q2];exact p1,q3 _ (h.wb k b0 q1) p2,p3⟩
    ·obtain⟨_,b0,q1,_⟩:=hB k b hk;obtain⟨_,b0',q1',_⟩:=hB k' b' hk';exact h.bi k k' _ _ q1 q1' he
    ·obtain⟨_,b0,q1,_⟩:=hB k b hk;exact h.br k b0 id r q1 (r2 id r hi)
    ·obtain⟨q1,q2,q3⟩:=h.ib b hb;exact⟨q1,λk bo hk=>by obtain⟨_,b0,p1,_⟩:=hB k bo hk;exact q2 k b0 p1,λid r hi=>q3 id r (r2 id r hi)⟩
    ·obtain⟨q1,bo,q2⟩:=h.k0 k b hk;refine⟨q1,hkeys k ?_⟩;have:=Ax.1 hin (k,bo) (NT q2);simp only[hZ k b hk,Bool.not_true,Bool.false_or]at this;exact EZ.1 this
   ·simp at hr
  ·simp at hr
 ·simp at hr
end
open Go.RowKit
section
variable {P:Program} {C:Cfg} {ρ:Env} {w:World} {R:Type} {Z:Base} {tm:List TV} {aB:List (Nat×Box)} {aC:List (Nat×Row)} {tmps:Array Value}
theorem F9 {α:Type}:∀(l:List α) (o:Nat) (vs:List α),o+vs.length<=l.length->splice l o vs=l.take o++vs++l.drop (o+vs.length)
 |l,o,[],h=>by simp[QI]
 |[],o,_::_,h=>by simp at h
 |x::l,0,v::vs,h=>by
  simp only[splice,List.take_zero,av,ay];rw[F9 l 0 vs (by simp at h⊢;omega)];simp
 |x::l,o+1,v::vs,h=>by
  simp only[splice];rw[F9 l o (v::vs) (by simp at h⊢;omega)];simp only[List.take_succ_cons,ay,bh];rw[show o+1+(vs.length+1)=(o+(vs.length+1))+1 from by omega,List.drop_succ_cons]
theorem Zac {t:TypeId} {x:Value} {b off:Nat} {cur:Array Value} {ty:TypeId} (hs:szT P t=some x.cells.toList.length) (hb:w.heap[b]? =some (.cells cur ty (0,0)))
  (hl:off+x.cells.toList.length<=cur.size) (h1:∀v∈x.cells.toList,v.oneCell'=true):
  (storeVar t ⟨b,off,none⟩ x).run P w= .ok () (w.setRow b (splice cur.toList off x.cells.toList).toArray):=by
 have:=run_storeCells_at P b off ty x.cells.toList 0 cur w hb (by simpa using hl) h1;simp only[Nat.add_zero]at this;have hsz:=D5 hs w;simp only[storeVar,Sem.run_bind,hsz,cg];rw[F9 _ _ _ (by simpa using hl)];rw[ab (by simp)];exact this
theorem Zw2 {α:Type} (xs vs:List α) (i wd sub n:Nat) (hi:i<n) (hl:xs.length=n*wd) (hv:sub+vs.length<=wd):
  cut (splice xs (i*wd+sub) vs) (i*wd) wd=splice (cut xs (i*wd) wd) sub vs:=by
 have hle:i*wd+wd<=n*wd:=by
  calc i*wd+wd=(i+1)*wd:=by rw[Nat.add_mul,Nat.one_mul]
   _<=n*wd:=be _ hi
 have hcl:(cut xs (i*wd) wd).length=wd:=by simp[cut];omega
 rw[F9 _ _ _ (by omega),F9 _ _ _ (by rw[hcl];exact hv)];apply List.ext_getElem?;intro j;simp only[cut,List.getElem?_take,List.getElem?_drop,List.getElem?_append,List.length_take,ao,da];by_cases hj:j<wd
 ·rw[aa hj];by_cases h1:j<sub
  ·rw[aa (by omega),aa (by omega),aa (by omega),aa (by omega),aa (by omega),aa h1,aa hj]
  ·by_cases h2:j<sub+vs.length
   ·rw[aa (by omega),ab (by omega),aa (by omega),ab (by omega)];congr 1;omega
   ·rw[ab (by omega),ab (by omega),aa (by omega)];congr 1;omega
 ·rw[ab hj,ab (by omega)];rw[ab (by omega)]
theorem Zdn {α:Type} (xs vs:List α) (i j wd sub n:Nat) (hi:i<n) (hij:j≠i) (hl:xs.length=n*wd) (hv:sub+vs.length<=wd):
  cut (splice xs (i*wd+sub) vs) (j*wd) wd=cut xs (j*wd) wd:=by
 have hle:i*wd+wd<=n*wd:=by
  calc i*wd+wd=(i+1)*wd:=by rw[Nat.add_mul,Nat.one_mul]
   _<=n*wd:=be _ hi
 rw[F9 _ _ _ (by omega)];have hsep:j*wd+wd<=i*wd\/i*wd+wd<=j*wd:=by
  rcases Nat.lt_or_gt_of_ne hij with h|h
  ·left
   calc j*wd+wd=(j+1)*wd:=by rw[Nat.add_mul,Nat.one_mul]
    _<=i*wd:=be _ h
  ·right
   calc i*wd+wd=(i+1)*wd:=by rw[Nat.add_mul,Nat.one_mul]
    _<=j*wd:=be _ h
 apply List.ext_getElem?;intro k;simp only[cut,List.getElem?_take,List.getElem?_drop,List.getElem?_append,List.length_take,ao];by_cases hk:k<wd
 ·rw[aa hk,aa hk];rcases hsep with h|h
  ·rw[aa (by omega),aa (by omega),aa (by omega)]
  ·rw[ab (by omega)];congr 1;omega
 ·rw[ab hk,ab hk]
theorem Ztr {o:Oper} {a:Act} {f:FuncId} {xs:List Value} {next:Act->World->Prop} {Q:Exit->Act->World->Prop} (hc:QY P f) (he:execOp a.eval o=callFunc f xs.toArray)
  (h:Calls P f xs.toArray w λe w'=>∃x,e= .returned x/\next (a.put o.dst x) w'):o.wp P a w next Q:=by
 obtain⟨fn,h1,h2,h3⟩:=hc;unfold Oper.wp;have:(execOp a.eval o).run P w= .ok (.enter f xs.toArray) w:=by
  rw[he];simp only[callFunc,Sem.run_bind,run_program,cg,h1];rw[ab (by rw[h2];simp),ab (by rw[h3];simp)];rfl
 rw[this,Oper.upon_enter];refine h.mono λe w' ⟨x,he,hn⟩=> ?_;subst he;exact hn
theorem TD {o:Oper} {a:Act} {f:FuncId} {xs:List Value} {next:Act->World->Prop} {Q:Exit->Act->World->Prop} (he:execOp a.eval o=callFunc f xs.toArray)
  (h:CallsX P f xs.toArray w λe w'=>∃x,e= .returned x/\next (a.put o.dst x) w'):o.wp P a w next Q:=by
 rcases h with⟨h1,h2⟩|⟨x,w',h1,y,h2,h3⟩
 ·exact Ztr h1 he h2
 ·simp only[Ending.returned.injEq]at h2;subst h2;unfold Oper.wp;rw[he,h1];exact h3
theorem HL {o:Oper} {a:Act} {x:Value} {w':World} {next:Act->World->Prop} {Q:Exit->Act->World->Prop} (he:(execOp a.eval o).run P w= .ok (.value x) w') (h:next (a.put o.dst x) w'):o.wp P a w next Q:=by
 unfold Oper.wp;rw[he];exact h
theorem Qss {o:Oper} {a:Act} {w':World} {next:Act->World->Prop} {Q:Exit->Act->World->Prop} (he:(execOp a.eval o).run P w= .ok .skip w') (h:next (a.put o.dst undef) w'):o.wp P a w next Q:=by
 unfold Oper.wp;rw[he];exact h
theorem CL.one {l:List AC} {xs:List Value} (h:CL (CC ρ w) l xs):∀v∈xs,v.oneCell'=true:=by
 induction l generalizing xs with
 |nil=>cases xs<;>first|(intro v hv;simp at hv;done)|exact h.elim
 |cons a l ih=>
  cases xs with
  |nil=>exact h.elim
  |cons y xs=>
   intro v hv;simp only[aq]at hv;rcases hv with rfl|hv
   ·exact h.1.one
   ·exact ih h.2 v hv
theorem CL.oneP {im:Nat->Prop} {l:List AC} {xs:List Value} (h:CL (CP im w) l xs):∀v∈xs,v.oneCell'=true:=by
 induction l generalizing xs with
 |nil=>cases xs<;>first|(intro v hv;simp at hv;done)|exact h.elim
 |cons a l ih=>
  cases xs with
  |nil=>exact h.elim
  |cons y xs=>
   intro v hv;simp only[aq]at hv;rcases hv with rfl|hv
   ·exact h.1.one
   ·exact ih h.2 v hv
theorem RowC.one {im:Nat->Prop} {ks:List Kd} {l:List (List AC)} {xs:List Value} (h:RowC im w ks l xs) (hwd:0<ks.length):∀v∈xs,v.oneCell'=true:=by
 intro v hv;obtain⟨j,hj,rfl⟩:=List.getElem_of_mem hv;have hjn:j/ks.length<l.length:=by rw[Nat.div_lt_iff_lt_mul hwd];rw[h.1]at hj;exact hj
 have hm:j%ks.length<ks.length:=Nat.mod_lt _ hwd;refine(h.2.2 (j/ks.length) _ (ai hjn)).oneP _ ?_;have:(cut xs (j/ks.length*ks.length) ks.length)[j%ks.length]? =some xs[j]:=by
  simp only[cut,List.getElem?_take,hm,if_true,List.getElem?_drop];rw[show j/ks.length*ks.length+j%ks.length=j from by rw[Nat.mul_comm];exact Nat.div_add_mod j ks.length];exact ai hj
 exact bn this
theorem RowC.append {im:Nat->Prop} {ks:List Kd} {l m:List (List AC)} {xs ys:List Value} (h:RowC im w ks l xs) (h':RowC im w ks m ys):
  RowC im w ks (l++m) (xs++ys):=by
 refine⟨by rw[ao,h.1,h'.1,ao,Nat.add_mul],λc hc=> ?_,λi c hi=> ?_⟩
 ·rcases bj.1 hc with hc|hc
  ·exact h.2.1 c hc
  ·exact h'.2.1 c hc
 ·by_cases hin:i<l.length
  ·rw[List.getElem?_append_left hin]at hi;have hle:i*ks.length+ks.length<=l.length*ks.length:=by
    calc i*ks.length+ks.length=(i+1)*ks.length:=by rw[Nat.add_mul,Nat.one_mul]
     _<=l.length*ks.length:=be _ hin
   have:cut (xs++ys) (i*ks.length) ks.length=cut xs (i*ks.length) ks.length:=by
    have:=h.1;simp only[cut];rw[List.drop_append_of_le_length (by omega),List.take_append_of_le_length (by rw[da];omega)]
   rw[this];exact h.2.2 i c hi
  ·rw[List.getElem?_append_right (by omega)]at hi;have:cut (xs++ys) (i*ks.length) ks.length=cut ys ((i-l.length)*ks.length) ks.length:=by
    have h1:=h.1;simp only[cut];rw[List.drop_append,List.drop_eq_nil_of_le (by rw[h1];exact be _ (by omega)),av,h1,<-Nat.sub_mul]
   rw[this];exact h'.2.2 (i-l.length) c hi
theorem Zk0 {t ty e:TypeId} {i:TypeInfo} (ht:P.underlying t=some (.slice e)) (hi:P.info? e=some i)
  {b off sLen sCap:Nat} {cur:Array Value} {e':TypeId} (hb:w.heap[b]? =some (.cells cur e' (0,0))) {a:Addr} {m c:Nat} {news:List Value} (hl:news.length=m*i.size) (hnews:∀j u,news[j]? =some u->w.cell? (a.add j)=some u) (h1:∀u∈news,u.oneCell'=true)
  (hroom:sLen+m<=sCap) (hle:off+sLen*i.size+news.length<=cur.size):
  (Builtin.append_ #[t,t] ty #[.slice (some ⟨b,off,none⟩) sLen sCap, .slice (some a) m c]).run P w= .ok (.slice (some ⟨b,off,none⟩) (sLen+m) sCap) (w.setRow b (splice cur.toList (off+sLen*i.size) news).toArray):=by
 have hfc:=run_firstCells_some (P:=P) w i.size m a m c news hl hnews;have hst:=run_storeCells_at P b (off+sLen*i.size) e' news 0 cur w hb (by simpa using hle) h1;simp only[Nat.add_zero]at hst;rw[F9 _ _ _ (by simpa using hle)];simp[Builtin.append_,run_underlying ht,sizeOf,typeInfo,hi,Builtin.lenOf,hroom,hfc,Addr.add_lit,hst]
theorem Qvy {t ty e:TypeId} {i:TypeInfo} {z:Value} {size:Nat} (ht:P.underlying t=some (.slice e)) (hi:P.info? e=some i) (hz:i.zero=some z)
  (hsize:i.size=size) (hzs:z.cells.size=size) (hsz:0<size)
  {v:Value} {n:Nat} {xs:List Value} (hown:EC w e size v n xs)
  {ad:Option Addr} {m c:Nat} {news:List Value} (hl:news.length=m*size) (hnews:m=0\/∃a,ad=some a/\∀j u,news[j]? =some u->w.cell? (a.add j)=some u) (h1:∀u∈news,u.oneCell'=true)
  (h63:n+m<=maxLen) (hbytes:(n+m)*i.bytes<=140737488355328):
  ∃v' w',(Builtin.append_ #[t,t] ty #[v, .slice ad m c]).run P w= .ok v' w'/\EC w' e size v' (n+m) (xs++news)/\w.grownBy w' v.ownBlock/\(v'.ownBlock=v.ownBlock\/v'.ownBlock=some w.heap.size):=by
 cases ad with
 |some a=>
  have hn:∀j u,news[j]? =some u->w.cell? (a.add j)=some u:=by
   rcases hnews with rfl|⟨a',ha',hh⟩
   ·have:news=[]:=List.eq_nil_of_length_eq_zero (by simpa using hl);subst this;intro j u h;simp at h
   ·simp at ha';subst ha';exact hh
  rcases hown.2 with⟨rfl,rfl⟩|⟨g,o,cap,cur,rfl,e3,e4,e5,e6,e7⟩
  ·have hx:xs=[]:=List.eq_nil_of_length_eq_zero (by simpa using hown.1);subst hx;obtain⟨v',w',q1,q2,q3,_,q5⟩:=run_append_own_at (P:=P) w 0 t ty e i z size i.bytes ht hi hz hsize rfl hzs hsz (.slice none 0 0) 0 [] (World.ownsRow_nil w 0 e size) a m c news hl hn h1 h63 hbytes (Nat.zero_le _);exact⟨v',w',q1,Qzq q2,q3,q5⟩
  ·by_cases hr:n+m<=cap
   ·subst hsize;have hb1:n*i.size+m*i.size<=cap*i.size:=by rw[<-Nat.add_mul];exact be _ hr
    have q:=Zk0 (P:=P) (ty:=ty) (off:=o) (sLen:=n) (sCap:=cap) (c:=c) ht hi e3 hl hn h1 hr (by rw[hl];omega);have hsl:=Lu cur.toList (o+n*i.size) news;refine⟨_,_,q,⟨by rw[ao,hown.1,hl,Nat.add_mul], .inr ⟨g,o,cap,_,rfl,setRow_heap w g cur _ e _ e3,hr,e5,by simp only[List.size_toArray];rw[hsl,Array.length_toList];exact e6,?_⟩⟩,⟨rfl,rfl,rfl,by simp,λk hk hne=>setRow_other w g k _ (λe=>hne (by rw[e];rfl))⟩, .inl rfl⟩;have hL:o+n*i.size+news.length<=cur.toList.length:=by rw[hl,Array.length_toList];omega
    show((splice cur.toList (o+n*i.size) news).toArray.toList.drop o).take ((n+m)*i.size)=xs++news;simp only[List.toList_toArray];rw[F9 _ _ _ hL,List.append_assoc,List.drop_append_of_le_length (by simp;omega),List.drop_take,show o+n*i.size-o=n*i.size from by omega,e7,<-List.append_assoc];rw[List.take_append_of_le_length (by rw[ao,hown.1,hl,Nat.add_mul];omega),List.take_of_length_le (by rw[ao,hown.1,hl,Nat.add_mul];omega)]
   ·obtain ⟨v', w', q1, q2, q3⟩ := run_append_arg_grows (P := P) w t ty e i z size i.bytes ht hi hz hsize rfl hzs hsz ⟨g, o, none⟩ n cap xs hown.1 (λj u hj => by
     have:=PK hown (g:=g) rfl j u hj;rw[Addr.add_lit];exact this) a m c news hl hn (by omega) h63 hbytes
    have hr2 := run_append_grow (P := P) w t ty e i z ht hi hz ⟨g, o, none⟩ n cap xs (by rw [hsize]; exact hown.1) (λj u hj => by
     have:=PK hown (g:=g) rfl j u hj;rw[Addr.add_lit];exact this) a m c news (by rw[hsize];exact hl) hn (by omega) (by simp only[maxLen]at h63;omega) (growslice_fits (by omega) hbytes)
    rw[q1]at hr2;simp only[Result.ok.injEq]at hr2;refine⟨v',w',q1,Qzq q2,⟨q3.os,q3.tape,q3.output,q3.size,λk hk _=>q3.block k hk (by simp)⟩, .inr ?_⟩;rw[hr2.1];rfl
 |none=>
  have hm:m=0:=by
   rcases hnews with h|⟨_,h,_⟩
   ·exact h
   ·simp at h
  subst hm;have hn:news=[]:=List.eq_nil_of_length_eq_zero (by simpa using hl);subst hn;refine⟨v,w,?_,by simpa using hown,⟨rfl,rfl,rfl,co _,λ_ _ _=>rfl⟩, .inl rfl⟩;rcases hown.2 with⟨rfl,rfl⟩|⟨g,o,cap,cur,rfl,_,hnc,_⟩
  ·simp[Builtin.append_,run_underlying ht,sizeOf,typeInfo,hi,Builtin.lenOf,Builtin.firstCells]
  ·simp[Builtin.append_,run_underlying ht,sizeOf,typeInfo,hi,Builtin.lenOf,Builtin.firstCells,hnc,storeCells]
theorem Zhh (h:RelE Z tm aB aC ρ tmps w) {ks:List Kd} {a:AC} {x:Value} {m:List (List AC)} (hs:GR aC ks a=some m) (hc:CC ρ w a x):
  ∃ad c news,x= .slice ad m.length c/\RowC ρ.im w ks m news/\(m.length=0\/∃a,ad=some a/\∀j u,news[j]? =some u->w.cell? (a.add j)=some u):=by
 unfold GR at hs;split at hs
 ·simp at hs;subst hs;simp only[CC,CP]at hc;subst hc;exact⟨none,0,[],rfl,⟨by simp,by simp,λi c hi=>by simp at hi⟩, .inl rfl⟩
 ·rename_i ks' l;cases hb:C6 ks ks'<;>rw[hb]at hs
  ·simp at hs
  ·simp at hs;subst hs;have:=I7 hb;subst this;simp only[CC,CP]at hc;obtain⟨ad,cap,rfl,hle,hk,hf⟩:=hc;rcases hf with rfl|⟨b,o,rfl,_,hss⟩
   ·exact⟨ad,cap,[],rfl,⟨by simp,by simp,λi c hi=>by simp at hi⟩, .inl rfl⟩
   ·obtain⟨ys,q1,q2⟩:=Zq9 l hk hss;refine⟨_,cap,ys,rfl,q1, .inr ⟨_,rfl,λj u hj=> ?_⟩⟩;rw[Addr.add_lit];exact q2 j u hj
 ·rename_i id w' n;split at hs
  ·rename_i r hr;cases hb:C6 ks r.ks<;>rw[hb]at hs
   ·simp at hs
   ·simp at hs;subst hs;have:=I7 hb;subst this;obtain⟨q1,q2,_,xs,q3,q4⟩:=h.ro id r hr;obtain⟨hc1,hc2,hc3⟩:=hc;subst hc1;rcases q3.2 with⟨e1,e2⟩|⟨g',o,cap,cur,e1,e3,e4,e5,e6,e7⟩
    ·have e2':r.l.length=0:=e2;exact⟨none,0,xs,by rw[e1,e2'],q4, .inl e2⟩
    ·refine⟨some ⟨g',o,none⟩,cap,xs,e1,q4, .inr ⟨_,rfl,λj u hj=> ?_⟩⟩;have:=PK q3 (g:=g') (by rw[e1];rfl) j u hj;rw[e1]at this;rw[Addr.add_lit];exact this
  ·simp at hs
 ·simp at hs
theorem RelE.growIm {im':Nat->Prop} {w':World} (hR:RelE Z tm aB aC ρ tmps w) (hbel:Below w.heap.size w w') (him1:∀b,ρ.im b->im' b) (him2:∀b,im' b->ρ.im b\/(w.heap.size<=b/\b<w'.heap.size)):
  RelE Z tm aB aC {ρ with im:=im'} tmps w':=by
 have hold:∀b,b<w.heap.size->w'.heap[b]? =w.heap[b]? :=λb hb=>hbel.block b hb;have hcc:∀(a:AC) (x:Value),CC ρ w a x->CC {ρ with im:=im'} w' a x:=λa x hx=>CC.mono (ρ:=ρ) (ρ':={ρ with im:=im'}) him1 (λb hb=>hold b (hR.ib b hb).1) a x (AC.agree_refl rfl rfl rfl a) hx;refine⟨hR.tl,λi v hi=>TVR.mono hcc v _ (hR.tv i v hi),hR.wt,hR.wb,?_,hR.bi,?_,hR.ri,hR.br,?_,hR.fr.trans (Fr.of_below hbel hR.fs),λk hk=>dq (hR.fs k hk) hbel.size,λb hb=>him1 b (hR.i0 b hb),λb hb=>(him2 b hb).elim (hR.i1 b) λq=> .inr λhf=>absurd (hR.fs b hf) (by omega),λk b hk=>hR.k0 k b hk⟩
 ·intro k b hk;obtain⟨arr,q1,q2,q3⟩:=hR.bx k b hk;exact⟨arr,by rw[hold _ (Of q1)];exact q1,q2.mono λa _ x hx=>hcc a x hx,q3⟩
 ·intro id r0 hr0;obtain⟨q1,q2,q0,ys,q3,q4⟩:=hR.ro id r0 hr0;exact⟨q1,q2,q0,ys,LE q3 λg hg=>hold g (hR.rwlt hr0 hg).2,q4.mono him1 (λb hb=>hold b (hR.ib b hb).1)⟩
 ·intro b hb;rcases him2 b hb with hb'|⟨hb1,hb2⟩
  ·obtain⟨q1,q2,q3⟩:=hR.ib b hb';exact⟨dq q1 hbel.size,q2,q3⟩
  ·exact⟨hb2,λk bo hk e=>by have:=hR.bxlt hk;have e':ρ.bx k=b:=e;omega,λid r0 hr0 e=>by have e':(ρ.rv id).ownBlock=some b:=e;have:=(hR.rwlt hr0 e').2;omega⟩
end
open Go.RowKit
section
variable {P:Program} {C:Cfg} {ρ:Env} {w:World} {R:Type} {Z:Base} {tm:List TV} {aB:List (Nat×Box)} {aC:List (Nat×Row)} {tmps:Array Value}
def AC.nmP (Kp:Nat->Prop):AC->Prop
 | .ptr k _=>Kp k
 |_=>True
def AC.nm (Kp Ip:Nat->Prop):AC->Prop
 | .ptr k _=>Kp k
 | .bsl k _=>Kp k
 | .own id _ _=>Ip id
 | .rptr id _ _=>Ip id
 | .clo _ fs cs=>(∀a∈fs,AC.nmP Kp a)/\∀a∈cs,AC.nmP Kp a
 |_=>True
def TV.nm (Kp Ip:Nat->Prop):TV->Prop
 | .v _ cs=>∀a∈cs,AC.nm Kp Ip a
 | .tup ps=>∀p∈ps,∀a∈p.2,AC.nm Kp Ip a
 | .dead=>True
theorem AC.nm_of_inK {keys ids:List Nat} {a:AC} (h:AC.inK keys ids a=true):a.nm (· ∈keys) (· ∈ids):=by
 have hp:∀l:List AC,Ak (AC.inK.inP keys) l=true->∀a∈l,AC.nmP (· ∈keys) a:=by
  intro l hl a ha;have:=Ax.1 hl a ha;cases a<;>first|trivial|exact EZ.1 this
 cases a with
 |ptr k o=>exact EZ.1 h
 |bsl k o=>exact EZ.1 h
 |own id w n=>exact EZ.1 h
 |rptr id i s=>exact EZ.1 h
 |clo f fs cs=>
  simp only[AC.inK,aj]at h;exact⟨hp fs h.1,hp cs h.2⟩
 |_=>trivial
theorem TV.nm_of_inK {keys ids:List Nat} {v:TV} (h:TV.inK keys ids v=true):v.nm (· ∈keys) (· ∈ids):=by
 cases v with
 |dead=>trivial
 |v g cs=>exact λa ha=>AC.nm_of_inK (Ax.1 h a ha)
 |tup ps=>exact λp hp a ha=>AC.nm_of_inK (Ax.1 (Ax.1 h p hp) a ha)
theorem AC.nm_of_wf {a:AC} (h:AC.wf aB aC a):a.nm (λk=>∃b,Ac aB k=some b) (λi=>∃r,Ac aC i=some r):=by
 have hp:∀l:List AC,(∀a∈l,AC.wfP aB a)->∀a∈l,AC.nmP (λk=>∃b,Ac aB k=some b) a:=by
  intro l hl a ha;have:=hl a ha;cases a<;>first|trivial|exact this
 cases a with
 |ptr k o=>exact h
 |bsl k o=>exact h
 |own id w n=>obtain⟨r,h1,_⟩:=h;exact⟨r,h1⟩
 |rptr id i s=>obtain⟨r,h1,_⟩:=h;exact⟨r,h1⟩
 |clo f fs cs=>exact⟨hp fs h.1,hp cs h.2⟩
 |_=>trivial
theorem TV.nm_of_wf {v:TV} (h:TV.wf aB aC v):v.nm (λk=>∃b,Ac aB k=some b) (λi=>∃r,Ac aC i=some r):=by
 cases v with
 |dead=>trivial
 |v g cs=>exact λa ha=>AC.nm_of_wf (h a ha)
 |tup ps=>exact λp hp a ha=>AC.nm_of_wf (h p hp a ha)
theorem Qo3 {ρ1 ρ2:Env} {Kp:Nat->Prop} {rk:Nat->Nat} (hb:∀k,Kp k->ρ2.bx (rk k)=ρ1.bx k) (hi:ρ2.im=ρ1.im):∀(l:List AC) (xs:List Value),(∀a∈l,AC.nmP Kp a)->CLc ρ1 w l xs->CLc ρ2 w (AC.ren.renP rk l) xs
 |[],[],_,_=>trivial
 |a::l,x::xs,hn,h=>by
  have ih:=Qo3 hb hi l xs (λb hb=>hn b (by simp[hb])) h.2;have h1:=h.1;have hn1:=hn a (by simp);cases a<;>simp only[AC.ren.renP]<;>refine⟨?_,ih⟩<;>first
   |(simp only[CCc]at h1⊢;rw[hb _ hn1];exact h1)
   |(simp only[CCc]at h1⊢;rw[hi];exact h1)
 |[],_::_,_,h=>h.elim
 |_::_,[],_,h=>h.elim
theorem Z4 {ρ1 ρ2:Env} {Kp Ip:Nat->Prop} {rk ri:Nat->Nat} (hb:∀k,Kp k->ρ2.bx (rk k)=ρ1.bx k) (hr:∀i,Ip i->ρ2.rv (ri i)=ρ1.rv i/\ρ2.wd (ri i)=ρ1.wd i) (hi:ρ2.im=ρ1.im)
  {a:AC} {x:Value} (hn:a.nm Kp Ip) (h:CC ρ1 w a x):CC ρ2 w (a.ren rk ri) x:=by
 cases a with
 |ptr k o=>simp only[AC.ren,CC]at*;rw[hb k hn];exact h
 |bsl k o=>simp only[AC.ren,CC]at*;rw[hb k hn];exact h
 |own id w n=>simp only[AC.ren,CC]at*;rw[(hr id hn).1,(hr id hn).2];exact h
 |rptr id i s=>simp only[AC.ren,CC]at*;rw[(hr id hn).1,(hr id hn).2];exact h
 |vptr cs s=>simp only[AC.ren,CC]at*;rw[hi];exact h
 |clo f fs cs=>
  obtain⟨xs,ys,h1,h2,h3⟩:=h;exact⟨xs,ys,h1,Qo3 hb hi fs _ hn.1 h2,Qo3 hb hi cs _ hn.2 h3⟩
 |dead=>exact h
 |int=>simp only[AC.ren,CC]at*;rw[hi];exact h
 |bool=>simp only[AC.ren,CC]at*;rw[hi];exact h
 |raw=>simp only[AC.ren,CC]at*;rw[hi];exact h
 |nilSl=>simp only[AC.ren,CC]at*;rw[hi];exact h
 |view=>simp only[AC.ren,CC]at*;rw[hi];exact h
theorem QK {ρ1 ρ2:Env} {Kp Ip:Nat->Prop} {rk ri:Nat->Nat} (hb:∀k,Kp k->ρ2.bx (rk k)=ρ1.bx k) (hr:∀i,Ip i->ρ2.rv (ri i)=ρ1.rv i/\ρ2.wd (ri i)=ρ1.wd i) (hi:ρ2.im=ρ1.im):
  ∀{l:List AC} {xs:List Value},(∀a∈l,a.nm Kp Ip)->CL (CC ρ1 w) l xs->CL (CC ρ2 w) (l.map (AC.ren rk ri)) xs
 |[],[],_,h=>h
 |a::l,y::xs,hn,h=>⟨Z4 hb hr hi (hn a (by simp)) h.1,QK hb hr hi (λb hb=>hn b (by simp[hb])) h.2⟩
 |[],_::_,_,h=>h.elim
 |_::_,[],_,h=>h.elim
theorem Q4v {ρ1 ρ2:Env} {Kp Ip:Nat->Prop} {rk ri:Nat->Nat} (hb:∀k,Kp k->ρ2.bx (rk k)=ρ1.bx k) (hr:∀i,Ip i->ρ2.rv (ri i)=ρ1.rv i/\ρ2.wd (ri i)=ρ1.wd i) (hi:ρ2.im=ρ1.im)
  {v:TV} {x:Value} (hn:v.nm Kp Ip) (h:TVR ρ1 w v x):TVR ρ2 w (v.ren rk ri) x:=by
 cases v with
 |dead=>trivial
 |v b cs=>
  cases b
  ·obtain⟨a,rfl,ha⟩:=h;exact⟨_,rfl,Z4 hb hr hi (hn a (by simp)) ha⟩
  ·obtain⟨ys,rfl,hy⟩:=h;exact⟨ys,rfl,QK hb hr hi hn hy⟩
 |tup ps=>
  obtain⟨ys,rfl,hy⟩:=h;refine⟨ys,rfl,?_⟩;generalize ys.toList=l at hy;induction ps generalizing l with
  |nil=>cases l<;>first|exact hy|exact hy.elim
  |cons p ps ih=>
   cases l with
   |nil=>exact hy.elim
   |cons y l=>
    obtain⟨b,cs⟩:=p;refine⟨?_,ih (λq hq=>hn q (by simp[hq])) l hy.2⟩;have h1:=hy.1;have hw1:=hn (b,cs) (by simp);cases b
    ·obtain⟨a,q1,q2⟩:=h1;subst q1;exact⟨_,rfl,Z4 hb hr hi (hw1 a (by simp)) q2⟩
    ·obtain⟨zs,q1,q2⟩:=h1;exact⟨zs,q1,QK hb hr hi hw1 q2⟩
theorem SP {b1 b2:List (Nat×Box)} {r1 r2:List (Nat×Row)} {Kp Ip:Nat->Prop} {rk ri:Nat->Nat} (hb:∀k,Kp k->(∃b,Ac b1 k=some b)->∃b,Ac b2 (rk k)=some b)
  (hr:∀i r,Ip i->Ac r1 i=some r->∃r',Ac r2 (ri i)=some r'/\r'.n=r.n/\r'.w=r.w) {a:AC} (hn:a.nm Kp Ip) (h:AC.wf b1 r1 a):AC.wf b2 r2 (a.ren rk ri):=by
 have hp:∀l:List AC,(∀a∈l,AC.nmP Kp a)->(∀a∈l,AC.wfP b1 a)->∀a∈AC.ren.renP rk l,AC.wfP b2 a:=by
  intro l;induction l with
  |nil=>intro _ _ a ha;simp[AC.ren.renP]at ha
  |cons c l ih=>
   intro hn hw a ha;have ih':=ih (λb hb=>hn b (by simp[hb])) (λb hb=>hw b (by simp[hb]));have h1:=hn c (by simp);have h2:=hw c (by simp);cases c<;>simp only[AC.ren.renP,aq]at ha<;>rcases ha with rfl|ha<;>first
    |exact ih' a ha
    |exact hb _ h1 h2
    |trivial
 cases a with
 |ptr k o=>exact hb k hn h
 |bsl k o=>exact hb k hn h
 |own id w n=>obtain⟨r,q1,q2,q3⟩:=h;obtain⟨r',p1,p2,p3⟩:=hr id r hn q1;exact⟨r',p1,by rw[p2,q2],by rw[p3,q3]⟩
 |rptr id i s=>obtain⟨r,q1,q2⟩:=h;obtain⟨r',p1,p2,p3⟩:=hr id r hn q1;exact⟨r',p1,by rw[p2];exact q2⟩
 |vptr=>exact h
 |clo f fs cs=>exact⟨hp fs hn.1 h.1,hp cs hn.2 h.2⟩
 |_=>trivial
theorem Qz2 {b1 b2:List (Nat×Box)} {r1 r2:List (Nat×Row)} {Kp Ip:Nat->Prop} {rk ri:Nat->Nat} (hb:∀k,Kp k->(∃b,Ac b1 k=some b)->∃b,Ac b2 (rk k)=some b)
  (hr:∀i r,Ip i->Ac r1 i=some r->∃r',Ac r2 (ri i)=some r'/\r'.n=r.n/\r'.w=r.w) {v:TV} (hn:v.nm Kp Ip) (h:TV.wf b1 r1 v):TV.wf b2 r2 (v.ren rk ri):=by
 cases v with
 |dead=>trivial
 |v g cs=>
  intro a ha;simp only[ba]at ha;obtain⟨c,hc,rfl⟩:=ha;exact SP hb hr (hn c hc) (h c hc)
 |tup ps=>
  intro p hp a ha;simp only[ba]at hp;obtain⟨q,hq,rfl⟩:=hp;simp only[ba]at ha;obtain⟨c,hc,rfl⟩:=ha;exact SP hb hr (hn q hq c hc) (h q hq c hc)
theorem Ik:∀{l:List Nat},BL l=true↔l.Nodup
 |[]=>by simp[BL]
 |k::l=>by
  simp only[BL,List.nodup_cons,<-Ik (l:=l)];cases h:AP l k
  ·have: ¬k∈l:=λhm=>by rw[EZ.2 hm]at h;cases h
   simp[this]
  ·have:=EZ.1 h;simp[this]
theorem D9 {l:List Nat} {n:Nat} (h:n∈l):pos l n<l.length/\nth 0 l (pos l n)=n:=by
 induction l with
 |nil=>simp at h
 |cons m l ih=>
  simp only[pos];cases hb:Nat.beq m n
  ·have hne:=Hq hb;have:n∈l:=by
    rcases aq.1 h with e|e
    ·exact absurd e.symm hne
    ·exact e
   obtain⟨h1,h2⟩:=ih this;exact⟨by simp only[an,bh];omega,by simp only[an];exact h2⟩
  ·exact⟨by simp,by simpa [nth]using ac hb⟩
theorem Zlq {l:List Nat} {m n:Nat} (hm:m∈l) (hn:n∈l) (h:pos l m=pos l n):m=n:=by
 rw[<-(D9 hm).2,<-(D9 hn).2,h]
theorem Iy {l:List Nat} (hd:l.Nodup) {i:Nat} (hi:i<l.length):pos l (nth 0 l i)=i:=by
 induction l generalizing i with
 |nil=>simp at hi
 |cons m l ih=>
  cases i with
  |zero=>simp[nth,pos]
  |succ i=>
   have hi':i<l.length:=by simpa using hi
   have hmem:nth 0 l i∈l:=by
    rw[B3,List.getD,ai hi'];exact bq hi'
   rw[List.nodup_cons]at hd;simp only[nth,pos];rw[KH (by rintro rfl;exact hd.1 hmem)];simp only[an];rw[ih hd.2 hi']
theorem Fv {l:List Nat} {i:Nat} (hi:i<l.length):nth 0 l i∈l:=by
 rw[B3,List.getD,ai hi];exact bq hi
theorem LI {rk ri:Nat->Nat}:∀{keys:List Nat} {b:Nat} {mb:List (Nat×Box)},Du aB rk ri b keys=some mb->
  (∀i,i<keys.length->∃x,Ac aB (nth 0 keys i)=some x/\Ac mb (b+i)=some ⟨x.ty,x.cells.map (AC.ren rk ri)⟩)/\∀c x,Ac mb c=some x->∃i,i<keys.length/\c=b+i
 |[],b,mb,h=>by simp[Du]at h;subst h;exact⟨λi hi=>by simp at hi,λc x h=>by simp[Ac]at h⟩
 |k::keys,b,mb,h=>by
  simp only[Du]at h;split at h
  ·rename_i x hx;split at h
   ·rename_i l hl;simp at h;subst h;obtain⟨h1,h2⟩:=LI hl;refine⟨λi hi=> ?_,λc y hc=> ?_⟩
    ·cases i with
     |zero=>exact⟨x,hx,by simp[Ac]⟩
     |succ i=>
      obtain⟨y,q1,q2⟩:=h1 i (by simpa using hi);refine⟨y,q1,?_⟩;rw[show b+(i+1)=b+1+i from by omega];simp only[Ac];rw[KH (by omega)];exact q2
    ·simp only[Ac]at hc;cases hb:Nat.beq b c<;>rw[hb]at hc
     ·obtain⟨i,q1,q2⟩:=h2 c y hc;exact⟨i+1,by simp;omega,by omega⟩
     ·exact⟨0,by simp,(ac hb).symm⟩
   ·simp at h
  ·simp at h
theorem Wu:∀{keys:List Nat} {b:Nat} {mb:List (Nat×Row)},F4 aC b keys=some mb->
  (∀i,i<keys.length->∃x,Ac aC (nth 0 keys i)=some x/\Ac mb (b+i)=some x)/\∀c x,Ac mb c=some x->∃i,i<keys.length/\c=b+i
 |[],b,mb,h=>by simp[F4]at h;subst h;exact⟨λi hi=>by simp at hi,λc x h=>by simp[Ac]at h⟩
 |k::keys,b,mb,h=>by
  simp only[F4]at h;split at h
  ·rename_i x hx;split at h
   ·rename_i l hl;simp at h;subst h;obtain⟨h1,h2⟩:=Wu hl;refine⟨λi hi=> ?_,λc y hc=> ?_⟩
    ·cases i with
     |zero=>exact⟨x,hx,by simp[Ac]⟩
     |succ i=>
      obtain⟨y,q1,q2⟩:=h1 i (by simpa using hi);refine⟨y,q1,?_⟩;rw[show b+(i+1)=b+1+i from by omega];simp only[Ac];rw[KH (by omega)];exact q2
    ·simp only[Ac]at hc;cases hb:Nat.beq b c<;>rw[hb]at hc
     ·obtain⟨i,q1,q2⟩:=h2 c y hc;exact⟨i+1,by simp;omega,by omega⟩
     ·exact⟨0,by simp,(ac hb).symm⟩
   ·simp at h
  ·simp at h
def H6 {α β:Type} (rk:Nat->Nat) (g:α->β):List (Nat×α)->List (Nat×β)->List (Nat×β)
 |[],l=>l
 |(k,b)::m,l=>H6 rk g m (ins l (rk k) (g b))
theorem Qnn (rk ri:Nat->Nat):∀(m:List (Nat×Box)) (l:List (Nat×Box)),Mg rk ri m l=H6 rk (λb=>⟨b.ty,b.cells.map (AC.ren rk ri)⟩) m l
 |[],_=>rfl
 |(_,_)::m,_=>by simp only[Mg,H6];exact Qnn rk ri m _
theorem Qum (ri:Nat->Nat):∀(m:List (Nat×Row)) (l:List (Nat×Row)),J9 ri m l=H6 ri (λb=>b) m l
 |[],_=>rfl
 |(_,_)::m,_=>by simp only[J9,H6];exact Qum ri m _
theorem TL {α β:Type} {rk:Nat->Nat} {g:α->β}:∀{m:List (Nat×α)} {l:List (Nat×β)},(m.map (·.1)).Nodup->(∀k∈m.map (·.1),∀j∈m.map (·.1),rk k=rk j->k=j)->(∀k∈m.map (·.1),Ac l (rk k)=none)->
  (∀k b,Ac m k=some b->Ac (H6 rk g m l) (rk k)=some (g b))/\(∀n,(∀k∈m.map (·.1),n≠rk k)->Ac (H6 rk g m l) n=Ac l n)
 |[],l,_,_,_=>⟨λk b h=>by simp[Ac]at h,λn _=>rfl⟩
 |(j,c)::m,l,hd,hi,hn=>by
  simp only[bf,List.nodup_cons]at hd;have hne:∀k∈m.map (·.1),rk k≠rk j:=λk hk e=>hd.1 (by have:=hi k (by simp at hk⊢;exact .inr hk) j (by simp) e;rw[<-this];exact hk);obtain ⟨h1, h2⟩ := TL (rk := rk) (g := g) (m := m) (l := ins l (rk j) (g c)) hd.2 (λk hk q hq => hi k (by simp at hk ⊢; exact .inr hk) q (by simp at hq ⊢; exact .inr hq)) (λk hk => by
   rw[DA _ _ _ _ (hne k hk)];exact hn k (by simp at hk⊢;exact .inr hk))
  have hj:Ac (ins l (rk j) (g c)) (rk j)=some (g c):=EJ _ _ _ (hn j (by simp));refine⟨λk b hk=> ?_,λn hnn=> ?_⟩
  ·simp only[Ac]at hk;cases hb:Nat.beq j k<;>rw[hb]at hk
   ·exact h1 k b hk
   ·have:=ac hb;subst this;simp at hk;subst hk;simp only[H6];rw[h2 (rk j) (λk hk e=>hne k hk e.symm)];exact hj
  ·simp only[H6];rw[h2 n (λk hk=>hnn k (by simp at hk⊢;exact .inr hk))];exact DA _ _ _ _ (hnn j (by simp))
theorem Kl {α:Type}:∀(ks:List Nat) (l:List (Nat×α)) (n:Nat),Ac (DZ ks l) n=if n∈ks then none else Ac l n
 |[],l,n=>by simp[DZ]
 |k::ks,l,n=>by
  simp only[DZ];rw[Kl ks];by_cases h:n=k
  ·subst h;simp only[SL,aq,true_or,if_true];split<;>rfl
  ·rw[L6 _ _ _ h];simp[h]
theorem K5 {α:Type}:∀{l:List (Nat×α)} {k:Nat},k∈l.map (·.1)↔∃b,Ac l k=some b
 |[],k=>by simp[Ac]
 |(j,c)::l,k=>by
  simp only[bf,aq,Ac];cases hb:Nat.beq j k
  ·simp only[an,<-K5 (l:=l)];constructor
   ·rintro(e|e)
    ·exact absurd e.symm (Hq hb)
    ·exact e
   ·exact .inr
  ·simp[ac hb]
theorem IQ {α:Type} {names:List Nat}:∀{l:List (Nat×α)} {k:Nat},k∈Bk names l↔k∈l.map (·.1)/\ ¬(base<=k/\k-base<names.length)
 |[],k=>by simp[Bk]
 |(j,c)::l,k=>by
  simp only[Bk,bf,aq];cases hb:(Nat.ble base j&&Nat.blt (j-base) names.length)
  ·have hj: ¬(base<=j/\j-base<names.length):=by
    rintro⟨h1,h2⟩;have e1:=Nat.ble_eq_true_of_le h1;have e2:Nat.blt (j-base) names.length=true:=Nat.ble_eq_true_of_le h2;rw[e1,e2]at hb;cases hb
   simp only[an,aq,IQ (l:=l)];constructor
   ·rintro(rfl|⟨h1,h2⟩)
    ·exact⟨.inl rfl,hj⟩
    ·exact⟨.inr h1,h2⟩
   ·rintro⟨rfl|h1,h2⟩
    ·exact .inl rfl
    ·exact .inr ⟨h1,h2⟩
  ·simp only[aj]at hb;have hj:base<=j/\j-base<names.length:=⟨az hb.1,az hb.2⟩;simp only[ah,IQ (l:=l)];constructor
   ·rintro⟨h1,h2⟩;exact⟨.inr h1,h2⟩
   ·rintro⟨rfl|h1,h2⟩
    ·exact absurd hj h2
    ·exact⟨h1,h2⟩
theorem K4 {names fresh:List Nat} {d k:Nat} (h:base<=k/\k-base<names.length):BJ names fresh d k=nth 0 names (k-base):=by
 unfold BJ;rw[Nat.ble_eq_true_of_le h.1,show Nat.blt (k-base) names.length=true from Nat.ble_eq_true_of_le h.2];rfl
theorem Q9z {names fresh:List Nat} {d k:Nat} (h: ¬(base<=k/\k-base<names.length)):BJ names fresh d k=100000+100*d+pos fresh k:=by
 unfold BJ;have:(Nat.ble base k&&Nat.blt (k-base) names.length)=false:=by
  apply Bool.eq_false_iff.2;intro hb;simp only[aj]at hb;exact h ⟨az hb.1,az hb.2⟩
 rw[this];rfl
theorem Qus {α β:Type} {names:List Nat} {d:Nat} {m':List (Nat×α)} {l:List (Nat×β)} (hd:names.Nodup) (hn:∀k∈names,∃b,Ac l k=some b)
  (hf:∀k∈Bk names m',Ac l (BJ names (Bk names m') d k)=none):
  ∀k∈m'.map (·.1),∀j∈m'.map (·.1),BJ names (Bk names m') d k=BJ names (Bk names m') d j->k=j:=by
 intro k hk j hj he;by_cases ck:base<=k/\k-base<names.length<;>by_cases cj:base<=j/\j-base<names.length
 ·rw[K4 ck,K4 cj]at he;have:=congrArg (pos names) he;rw[Iy hd ck.2,Iy hd cj.2]at this;omega
 ·have h1:=hf j (IQ.2 ⟨hj,cj⟩);rw[<-he,K4 ck]at h1;obtain⟨b,hb⟩:=hn _ (Fv ck.2);rw[hb]at h1;cases h1
 ·have h1:=hf k (IQ.2 ⟨hk,ck⟩);rw[he,K4 cj]at h1;obtain⟨b,hb⟩:=hn _ (Fv cj.2);rw[hb]at h1;cases h1
 ·rw[Q9z ck,Q9z cj]at he;exact Zlq (IQ.2 ⟨hk,ck⟩) (IQ.2 ⟨hj,cj⟩) (by omega)
noncomputable def LT {α:Type} (m:List (Nat×α)) (bk:Nat->Nat) (n:Nat):Option Nat:= @dite _ (∃k∈m.map (·.1),bk k=n) (Classical.propDecidable _) (λh=>some (Classical.choose h)) (λ_=>none)
theorem Q1x {α:Type} {m:List (Nat×α)} {bk:Nat->Nat} (hinj:∀k∈m.map (·.1),∀j∈m.map (·.1),bk k=bk j->k=j) {k:Nat} (hk:k∈m.map (·.1)):LT m bk (bk k)=some k:=by
 unfold LT;have h:∃j∈m.map (·.1),bk j=bk k:=⟨k,hk,rfl⟩;rw[dif_pos h];have:=Classical.choose_spec h;rw[hinj _ this.1 k hk this.2]
theorem Qxf {α:Type} {m:List (Nat×α)} {bk:Nat->Nat} {n:Nat} (h:∀k∈m.map (·.1),n≠bk k):LT m bk n=none:=by
 unfold LT;rw[dif_neg];rintro⟨k,hk,he⟩;exact h k hk he.symm
theorem Q34:∀(ids:List Nat) {v:TV} {x:Value},TVR ρ w v x->TVR ρ w (H4 ids v) x
 |[],_,_,h=>h
 |_::l,_,_,h=>Q34 l (TV.kill_TVR h)
theorem Q05:∀(ids:List Nat) {v:TV},TV.wf aB aC v->TV.wf aB aC (H4 ids v)
 |[],_,h=>h
 |_::l,_,h=>Q05 l (TV.kill_wf h)
theorem V8 {id j:Nat} {a:AC} (h:AC.free j a):AC.free j (a.kill id):=by
 cases a with
 |own i w n=>simp only[AC.kill];cases Nat.beq i id<;>first|exact h|trivial
 |rptr i n s=>simp only[AC.kill];cases Nat.beq i id<;>first|exact h|trivial
 |_=>trivial
theorem Ziz {id j:Nat} {v:TV} (h:TV.free j v):TV.free j (v.kill id):=by
 cases v with
 |v g cs=>
  intro a ha;simp only[ba]at ha;obtain⟨b,hb,rfl⟩:=ha;exact V8 (h b hb)
 |tup ps=>
  intro p hp a ha;simp only[ba]at hp;obtain⟨q,hq,rfl⟩:=hp;simp only[ba]at ha;obtain⟨b,hb,rfl⟩:=ha;exact V8 (h q hq b hb)
 |dead=>trivial
theorem Q1r {j:Nat}:∀(ids:List Nat) {v:TV},TV.free j v->TV.free j (H4 ids v)
 |[],_,h=>h
 |_::l,_,h=>Q1r l (Ziz h)
theorem Q3p:∀(ids:List Nat) (v:TV),∀id∈ids,TV.free id (H4 ids v)
 |[],_,id,h=>by simp at h
 |i::l,v,id,h=>by
  simp only[aq]at h;by_cases e:id∈l
  ·exact Q3p l (v.kill i) id e
  ·have:id=i:=h.resolve_right e;subst this;exact Q1r l (TV.kill_free id v)
theorem Qvk:∀(ids:List Nat) (b:Box),(DC ids b).ty=b.ty
 |[],_=>rfl
 |_::l,b=>by rw[DC,Qvk l];rfl
theorem Qto:∀(ids:List Nat) {b:Box} {xs:List Value},CL (CC ρ w) b.cells xs->CL (CC ρ w) (DC ids b).cells xs
 |[],_,_,h=>h
 |i::l,b,_,h=>Qto l (b:=b.kill i) h.kill
theorem Qwh:∀(ids:List Nat) {b:Box},(∀a∈b.cells,AC.wf aB aC a)->∀a∈(DC ids b).cells,AC.wf aB aC a
 |[],_,h=>h
 | i :: l, b, h => Qwh l (b := b.kill i) (λa ha => by
  simp only[Box.kill,ba]at ha;obtain⟨c,hc,rfl⟩:=ha;exact AC.kill_wf (h c hc))
theorem Q26 {j:Nat}:∀(ids:List Nat) {b:Box},(∀a∈b.cells,AC.free j a)->∀a∈(DC ids b).cells,AC.free j a
 |[],_,h=>h
 | i :: l, b, h => Q26 l (b := b.kill i) (λa ha => by
  simp only[Box.kill,ba]at ha;obtain⟨c,hc,rfl⟩:=ha;exact V8 (h c hc))
theorem Q76:∀(ids:List Nat) (b:Box),∀id∈ids,∀a∈(DC ids b).cells,AC.free id a
 |[],_,id,h=>by simp at h
 |i::l,b,id,h=>by
  simp only[aq]at h;by_cases e:id∈l
  ·exact Q76 l (b.kill i) id e
  ·have:id=i:=h.resolve_right e;subst this;exact Q26 l (b := b.kill id) (λa ha => by
    simp only[Box.kill,ba]at ha;obtain⟨c,hc,rfl⟩:=ha;exact AC.kill_free id c)
end
open Go.RowKit
section
variable {P:Program} {C:Cfg} {ρ:Env} {w:World} {R:Type} {Z:Base} {tm:List TV} {aB:List (Nat×Box)} {aC:List (Nat×Row)} {tmps:Array Value}
theorem Q8i {k:Nat} {b:Box} (h:Ac aB k=some b):EE aB k=b.cells:=by unfold EE;rw[h]
def JJ (ρ:Env) (keys ids:List Nat):Env:=⟨λc=>ρ.bx (nth 0 keys (c-base)),λc=>ρ.rv (nth 0 ids (c-base)),λc=>ρ.wd (nth 0 ids (c-base)),ρ.im⟩
def JX (w:World) (ρ:Env) (keys ids:List Nat):Nat->Prop:=λb=>b<w.heap.size/\(∀k∈keys,ρ.bx k≠b)/\∀id∈ids,(ρ.rv id).ownBlock≠some b
theorem Qdz (hR:RelE Z tm aB aC ρ tmps w) {args:List TV} {xs:List Value} (h1:xs.length=args.length)
  (h2:∀(i:Nat) (a:TV) (x:Value),args[i]? =some a->xs[i]? =some x->TVR ρ w a x) (hwf:∀v∈args,TV.wf aB aC v) {keys ids:List Nat} (hkd:keys.Nodup) (hidd:ids.Nodup)
  (hin:∀v∈args,TV.inK keys ids v=true) (hbin:∀k∈keys,Ak (AC.inK keys ids) (EE aB k)=true) {mb:List (Nat×Box)} {mr:List (Nat×Row)}
  (hmb:Du aB (λk=>base+pos keys k) (λi=>base+pos ids i) base keys=some mb) (hmr:F4 aC base ids=some mr):
  RelE (E6 (JX w ρ keys ids) w (JJ ρ keys ids) mb) (args.map (TV.ren (λk=>base+pos keys k) (λi=>base+pos ids i))) mb mr (JJ ρ keys ids) xs.toArray w:=by
 obtain⟨b1,b2⟩:=LI hmb;obtain⟨r1,r2⟩:=Wu hmr;have eb:∀k,k∈keys->(JJ ρ keys ids).bx (base+pos keys k)=ρ.bx k:=λk hk=>by
  show ρ.bx (nth 0 keys (base+pos keys k-base))=_;rw[Nat.add_sub_cancel_left,(D9 hk).2]
 have er:∀i,i∈ids->(JJ ρ keys ids).rv (base+pos ids i)=ρ.rv i/\(JJ ρ keys ids).wd (base+pos ids i)=ρ.wd i:=λi hi=>by
  constructor
  ·show ρ.rv (nth 0 ids (base+pos ids i-base))=_;rw[Nat.add_sub_cancel_left,(D9 hi).2]
  ·show ρ.wd (nth 0 ids (base+pos ids i-base))=_;rw[Nat.add_sub_cancel_left,(D9 hi).2]
 have wb:∀k,k∈keys->(∃b,Ac aB k=some b)->∃b,Ac mb (base+pos keys k)=some b:=λk hk _=>by
  obtain⟨x,_,q⟩:=b1 (pos keys k) (D9 hk).1;exact⟨_,q⟩
 have wr:∀i r,i∈ids->Ac aC i=some r->∃r',Ac mr (base+pos ids i)=some r'/\r'.n=r.n/\r'.w=r.w:=λi r hi hr=>by
  obtain⟨x,q1,q⟩:=r1 (pos ids i) (D9 hi).1;rw[(D9 hi).2,hr]at q1;simp at q1;subst q1;exact⟨_,q,rfl,rfl⟩
 have lb:∀c x,Ac mb c=some x->∃i x0,i<keys.length/\c=base+i/\Ac aB (nth 0 keys i)=some x0/\x=⟨x0.ty,x0.cells.map (AC.ren (λk=>base+pos keys k) (λi=>base+pos ids i))⟩:=by
  intro c x hc;obtain⟨i,hi,rfl⟩:=b2 c x hc;obtain⟨x0,q1,q2⟩:=b1 i hi;rw[hc]at q2;simp at q2;exact⟨i,x0,hi,rfl,q1,q2⟩
 have lr:∀c x,Ac mr c=some x->∃i,i<ids.length/\c=base+i/\Ac aC (nth 0 ids i)=some x:=by
  intro c x hc;obtain⟨i,hi,rfl⟩:=r2 c x hc;obtain⟨x0,q1,q2⟩:=r1 i hi;rw[hc]at q2;simp at q2;subst q2;exact⟨i,hi,rfl,q1⟩
 have xb:∀i,(JJ ρ keys ids).bx (base+i)=ρ.bx (nth 0 keys i):=λi=>by
  show ρ.bx (nth 0 keys (base+i-base))=_;rw[Nat.add_sub_cancel_left]
 have xr:∀i,(JJ ρ keys ids).rv (base+i)=ρ.rv (nth 0 ids i):=λi=>by
  show ρ.rv (nth 0 ids (base+i-base))=_;rw[Nat.add_sub_cancel_left]
 have xw:∀i,(JJ ρ keys ids).wd (base+i)=ρ.wd (nth 0 ids i):=λi=>by
  show ρ.wd (nth 0 ids (base+i-base))=_;rw[Nat.add_sub_cancel_left]
 have nthk:∀i j,i<keys.length->j<keys.length->nth 0 keys i=nth 0 keys j->i=j:=λi j hi hj e=>by rw[<-Iy hkd hi,<-Iy hkd hj,e]
 have nthi:∀i j,i<ids.length->j<ids.length->nth 0 ids i=nth 0 ids j->i=j:=λi j hi hj e=>by rw[<-Iy hidd hi,<-Iy hidd hj,e]
 refine⟨by simp[h1],λi v hi=> ?_,λv hv=> ?_,λk b hk a ha=> ?_,λk b hk=> ?_,λk k' b b' hk hk' he=> ?_,λid r hr=> ?_,λid id' r r' g hr hr' hg hg'=> ?_,λk b id r hk hr=> ?_,λb hb=>⟨(hR.ib b hb).1,λk bo hk=> ?_,λid r hr=> ?_⟩,Fr.refl _ _,λk h=>h.1,λb h=>h,λb h=> .inl h,λk b hk=> ?_⟩
 ·simp only[List.getElem?_map,bm]at hi;obtain⟨a,ha,rfl⟩:=hi;have hil:i<xs.length:=by rw[h1];exact(List.getElem?_eq_some_iff.1 ha).1
  have e:xs.toArray.getD i undef=xs[i]:=by simp[Array.getD,hil]
  rw[e];exact Q4v (Kp:=(· ∈keys)) (Ip:=(· ∈ids)) eb er rfl (TV.nm_of_inK (hin a (bn ha))) (h2 i a _ ha (ai hil))
 ·simp only[ba]at hv;obtain⟨a,ha,rfl⟩:=hv;exact Qz2 (Kp:=(· ∈keys)) (Ip:=(· ∈ids)) wb wr (TV.nm_of_inK (hin a ha)) (hwf a ha)
 ·obtain⟨i,x0,hi,rfl,q1,rfl⟩:=lb k b hk;simp only[ba]at ha;obtain⟨c,hc,rfl⟩:=ha;have hin':=hbin _ (Fv hi);rw[Q8i q1]at hin';exact SP (Kp:=(· ∈keys)) (Ip:=(· ∈ids)) wb wr (AC.nm_of_inK (Ax.1 hin' c hc)) (hR.wb _ x0 q1 c hc)
 ·obtain⟨i,x0,hi,rfl,q1,rfl⟩:=lb k b hk;obtain⟨arr,p1,p2,p3⟩:=hR.bx _ x0 q1;have hin':=hbin _ (Fv hi);rw[Q8i q1]at hin';refine⟨arr,by rw[xb];exact p1,QK (Kp:=(· ∈keys)) (Ip:=(· ∈ids)) eb er rfl (λc hc=>AC.nm_of_inK (Ax.1 hin' c hc)) p2,?_⟩;rw[xb];exact λhf=>hf.2.1 _ (Fv hi) rfl
 ·obtain⟨i,x0,hi,rfl,q1,_⟩:=lb k b hk;obtain⟨j,y0,hj,rfl,q2,_⟩:=lb k' b' hk';rw[xb,xb]at he;rw[nthk i j hi hj (hR.bi _ _ _ _ q1 q2 he)]
 ·obtain⟨i,hi,rfl,q1⟩:=lr id r hr;obtain⟨p1,p2,p0,ys,p3,p4⟩:=hR.ro _ r q1;exact⟨p1,by rw[xw];exact p2,λg hg hf=>hf.2.2 _ (Fv hi) (by rw[xr]at hg;exact hg),ys,by rw[xr];exact p3,p4⟩
 ·obtain⟨i,hi,rfl,q1⟩:=lr id r hr;obtain⟨j,hj,rfl,q2⟩:=lr id' r' hr';rw[xr]at hg hg';rw[nthi i j hi hj (hR.ri _ _ _ _ g q1 q2 hg hg')]
 ·obtain⟨i,x0,hi,rfl,q1,_⟩:=lb k b hk;obtain⟨j,hj,rfl,q2⟩:=lr id r hr;rw[xr,xb];exact hR.br _ _ _ _ q1 q2
 ·obtain⟨i,x0,hi,rfl,q1,_⟩:=lb k bo hk;rw[xb];exact(hR.ib b hb).2.1 _ _ q1
 ·obtain⟨i,hi,rfl,q1⟩:=lr id r hr;rw[xr];exact(hR.ib b hb).2.2 _ _ q1
 ·simp only[E6,bm]at hk;obtain⟨bo,hbo,e⟩:=hk;exact⟨e,bo,hbo⟩
noncomputable def E1 (ρ ρ2:Env) (mb':List (Nat×Box)) (mr':List (Nat×Row)) (bk bi:Nat->Nat):Env:=
 ⟨λn=>match LT mb' bk n with|some k=>ρ2.bx k|none=>ρ.bx n,λn=>match LT mr' bi n with|some k=>ρ2.rv k|none=>ρ.rv n,λn=>match LT mr' bi n with|some k=>ρ2.wd k|none=>ρ.wd n,ρ2.im⟩
theorem Ql5 (hR:RelE Z tm aB aC ρ tmps w) {keys ids:List Nat} (hkd:keys.Nodup) (hidd:ids.Nodup) {mb mb':List (Nat×Box)} {mr mr':List (Nat×Row)}
  (hmb:Du aB (λk=>base+pos keys k) (λi=>base+pos ids i) base keys=some mb) (hmr:F4 aC base ids=some mr) {v:TV} {x:Value} {ρ2:Env} {w':World}
  (hR2:RelE (E6 (JX w ρ keys ids) w (JJ ρ keys ids) mb) [v] mb' mr' ρ2 #[x] w') {d:Nat}
  (hb':(mb'.map (·.1)).Nodup) (hr':(mr'.map (·.1)).Nodup) (hfb:∀k∈Bk keys mb',Ac aB (BJ keys (Bk keys mb') d k)=none) (hfr:∀k∈Bk ids mr',Ac aC (BJ ids (Bk ids mr') d k)=none):
  let bk:=BJ keys (Bk keys mb') d
  let bi:=BJ ids (Bk ids mr') d
  RelE Z (tm.map (H4 ids)) (Mg bk bi mb' ((DZ keys aB).map λp=>(p.1,DC ids p.2))) (J9 bi mr' (DZ ids aC)) (E1 ρ ρ2 mb' mr' bk bi) tmps w'/\
   TVR (E1 ρ ρ2 mb' mr' bk bi) w' (v.ren bk bi) x/\TV.wf (Mg bk bi mb' ((DZ keys aB).map λp=>(p.1,DC ids p.2))) (J9 bi mr' (DZ ids aC)) (v.ren bk bi):=by
 intro bk bi;obtain⟨b1,b2⟩:=LI hmb;obtain⟨r1,r2⟩:=Wu hmr;have hkb:∀k∈keys,∃b,Ac aB k=some b:=λk hk=>by
  obtain⟨x,q,_⟩:=b1 (pos keys k) (D9 hk).1;rw[(D9 hk).2]at q;exact⟨x,q⟩
 have hir:∀k∈ids,∃b,Ac aC k=some b:=λk hk=>by
  obtain⟨x,q,_⟩:=r1 (pos ids k) (D9 hk).1;rw[(D9 hk).2]at q;exact⟨x,q⟩
 have injb:∀k∈mb'.map (·.1),∀j∈mb'.map (·.1),bk k=bk j->k=j:=Qus hkd hkb hfb;have injr:∀k∈mr'.map (·.1),∀j∈mr'.map (·.1),bi k=bi j->k=j:=Qus hidd hir hfr
 have hkeep:∀i,i<keys.length->(∃b,Ac mb' (base+i)=some b)/\ρ2.bx (base+i)=ρ.bx (nth 0 keys i):=by
  intro i hi;obtain⟨x0,_,q⟩:=b1 i hi;obtain ⟨p1, bo, p2⟩ := hR2.k0 (base + i) (ρ.bx (nth 0 keys i)) (by
   simp only[E6,q,Option.map_some];show some (ρ.bx (nth 0 keys (base+i-base)))=_;rw[Nat.add_sub_cancel_left])
  exact⟨⟨bo,p2⟩,p1⟩
 have bkin:∀i,i<keys.length->bk (base+i)=nth 0 keys i:=λi hi=>by
  have:=K4 (names:=keys) (fresh:=Bk keys mb') (d:=d) (k:=base+i) ⟨by omega,by omega⟩;rw[Nat.add_sub_cancel_left]at this;exact this
 have biin:∀i,i<ids.length->bi (base+i)=nth 0 ids i:=λi hi=>by
  have:=K4 (names:=ids) (fresh:=Bk ids mr') (d:=d) (k:=base+i) ⟨by omega,by omega⟩;rw[Nat.add_sub_cancel_left]at this;exact this
 have imb:∀k∈mb'.map (·.1),(∃i,i<keys.length/\k=base+i/\bk k=nth 0 keys i)\/(Ac aB (bk k)=none):=by
  intro k hk;by_cases hc:base<=k/\k-base<keys.length
  ·refine .inl ⟨k-base,hc.2,by omega,?_⟩;have:=bkin (k-base) hc.2;rw[show base+(k-base)=k from by omega]at this;exact this
  ·exact .inr (hfb k (IQ.2 ⟨hk,hc⟩))
 have imr:∀k∈mr'.map (·.1),(∃i,i<ids.length/\k=base+i/\bi k=nth 0 ids i)\/(Ac aC (bi k)=none):=by
  intro k hk;by_cases hc:base<=k/\k-base<ids.length
  ·refine .inl ⟨k-base,hc.2,by omega,?_⟩;have:=biin (k-base) hc.2;rw[show base+(k-base)=k from by omega]at this;exact this
  ·exact .inr (hfr k (IQ.2 ⟨hk,hc⟩))
 have nob:∀n b,Ac aB n=some b->n∉keys->∀k∈mb'.map (·.1),n≠bk k:=by
  rintro n b hn hnk k hk rfl;rcases imb k hk with⟨i,hi,_,e⟩|e
  ·exact hnk (by rw[e];exact Fv hi)
  ·rw[hn]at e;cases e
 have nor:∀n b,Ac aC n=some b->n∉ids->∀k∈mr'.map (·.1),n≠bi k:=by
  rintro n b hn hnk k hk rfl;rcases imr k hk with⟨i,hi,_,e⟩|e
  ·exact hnk (by rw[e];exact Fv hi)
  ·rw[hn]at e;cases e
 have ebx:∀k,(∃b,Ac mb' k=some b)->(E1 ρ ρ2 mb' mr' bk bi).bx (bk k)=ρ2.bx k:=λk hk=>by
  simp only[E1,Q1x injb (K5.2 hk)]
 have erv:∀k,(∃b,Ac mr' k=some b)->(E1 ρ ρ2 mb' mr' bk bi).rv (bi k)=ρ2.rv k/\(E1 ρ ρ2 mb' mr' bk bi).wd (bi k)=ρ2.wd k:=λk hk=>by
  constructor<;>simp only[E1,Q1x injr (K5.2 hk)]
 have obx:∀n,(∃b,Ac aB n=some b)->(E1 ρ ρ2 mb' mr' bk bi).bx n=ρ.bx n:=by
  rintro n ⟨b,hn⟩;by_cases hnk:n∈keys
  ·obtain⟨p1,p2⟩:=D9 hnk;obtain⟨q1,q2⟩:=hkeep _ p1;have:=ebx (base+pos keys n) q1;rw[bkin _ p1,p2,q2,p2]at this;exact this
  ·simp only[E1,Qxf (nob n b hn hnk)]
 have orv:∀n,(∃b,Ac aC n=some b)->n∉ids->(E1 ρ ρ2 mb' mr' bk bi).rv n=ρ.rv n/\(E1 ρ ρ2 mb' mr' bk bi).wd n=ρ.wd n:=by
  rintro n ⟨b,hn⟩ hnk;constructor<;>simp only[E1,Qxf (nor n b hn hnk)]
 have hsz:=hR2.fr.size;have fbx:∀n b,Ac aB n=some b->n∉keys->JX w ρ keys ids (ρ.bx n):=λn b hn hnk=>
  ⟨hR.bxlt hn,λk hk e=>by obtain⟨b',hb'⟩:=hkb k hk;exact hnk (by rw[<-hR.bi k n b' b hb' hn e];exact hk),λid hid=>by obtain⟨r,hr⟩:=hir id hid;exact hR.br n b id r hn hr⟩
 have frv:∀n r g,Ac aC n=some r->n∉ids->(ρ.rv n).ownBlock=some g->JX w ρ keys ids g:=λn r g hn hnk hg=>
  ⟨(hR.rwlt hn hg).2,λk hk e=>by obtain⟨b',hb'⟩:=hkb k hk;exact hR.br k b' n r hb' hn (by rw[hg,e]),λid hid e=>by obtain⟨r',hr'⟩:=hir id hid;exact hnk (by rw[<-hR.ri id n r' r g hr' hn e hg];exact hid)⟩
 have fim:∀b,ρ.im b->JX w ρ keys ids b:=λb hb=>
  ⟨(hR.ib b hb).1,λk hk=>by obtain⟨b',hb'⟩:=hkb k hk;exact(hR.ib b hb).2.1 k b' hb',λid hid=>by obtain⟨r,hr⟩:=hir id hid;exact(hR.ib b hb).2.2 id r hr⟩
 have fz:∀b,Z.F b->JX w ρ keys ids b:=λb hb=>
  ⟨hR.fs b hb,λk hk e=>by obtain⟨b',hb'⟩:=hkb k hk;obtain⟨_,_,_,q⟩:=hR.bx k b' hb';exact q (e▸hb),λid hid e=>by obtain⟨r,hr⟩:=hir id hid;exact(hR.rwlt hr e).1 hb⟩
 have hold:∀b,JX w ρ keys ids b->w'.heap[b]? =w.heap[b]? :=λb hb=>hR2.fr.block b hb;have him:∀b,ρ.im b->ρ2.im b:=λb hb=>hR2.i0 b hb;have him2:∀b,ρ2.im b->ρ.im b\/ ¬JX w ρ keys ids b:=λb hb=>hR2.i1 b hb
 have hbn:∀k∈mb'.map (·.1),Ac ((DZ keys aB).map λp=>(p.1,DC ids p.2)) (bk k)=none:=by
  intro k hk;rw[F6 (DC ids),Kl];rcases imb k hk with⟨i,hi,_,e⟩|e
  ·rw[aa (by rw[e];exact Fv hi)];rfl
  ·split
   ·rfl
   ·rw[e];rfl
 have hrn:∀k∈mr'.map (·.1),Ac (DZ ids aC) (bi k)=none:=by
  intro k hk;rw[Kl];rcases imr k hk with⟨i,hi,_,e⟩|e
  ·rw[aa (by rw[e];exact Fv hi)]
  ·split
   ·rfl
   ·exact e
 obtain⟨gb1,gb2⟩:=TL (rk:=bk) (g:=λb:Box=>(⟨b.ty,b.cells.map (AC.ren bk bi)⟩:Box)) hb' injb hbn;obtain⟨gr1,gr2⟩:=TL (rk:=bi) (g:=λb:Row=>b) hr' injr hrn;rw[Qnn,Qum];generalize hB:H6 bk (λb:Box=>(⟨b.ty,b.cells.map (AC.ren bk bi)⟩:Box)) mb' ((DZ keys aB).map λp=>(p.1,DC ids p.2))=B' at gb1 gb2⊢;generalize hRr:H6 bi (λb:Row=>b) mr' (DZ ids aC)=R' at gr1 gr2⊢;have caseB:∀n b,Ac B' n=some b->(∃k b0,Ac mb' k=some b0/\n=bk k/\b=⟨b0.ty,b0.cells.map (AC.ren bk bi)⟩)\/(n∉keys/\∃b0,Ac aB n=some b0/\b=DC ids b0):=by
  intro n b hn;by_cases hc:∃k∈mb'.map (·.1),n=bk k
  ·obtain⟨k,hk,rfl⟩:=hc;obtain⟨b0,hb0⟩:=K5.1 hk;have:=gb1 k b0 hb0;rw[hn]at this;simp at this;exact .inl ⟨k,b0,hb0,rfl,this⟩
  ·rw[gb2 n (λk hk e=>hc ⟨k,hk,e⟩),F6 (DC ids),Kl]at hn;split at hn
   ·simp at hn
   ·rename_i hnk;simp only[bm]at hn;obtain⟨b0,h1,h2⟩:=hn;exact .inr ⟨hnk,b0,h1,h2.symm⟩
 have caseR:∀n r,Ac R' n=some r->(∃k,Ac mr' k=some r/\n=bi k)\/(n∉ids/\Ac aC n=some r):=by
  intro n r hn;by_cases hc:∃k∈mr'.map (·.1),n=bi k
  ·obtain⟨k,hk,rfl⟩:=hc;obtain⟨b0,hb0⟩:=K5.1 hk;have:=gr1 k b0 hb0;rw[hn]at this;simp at this;subst this;exact .inl ⟨k,hb0,rfl⟩
  ·rw[gr2 n (λk hk e=>hc ⟨k,hk,e⟩),Kl]at hn;split at hn
   ·simp at hn
   ·rename_i hnk;exact .inr ⟨hnk,hn⟩
 have oldB:∀n b,Ac aB n=some b->∃b',Ac B' n=some b':=by
  intro n b hn;by_cases hnk:n∈keys
  ·obtain⟨p1,p2⟩:=D9 hnk;obtain⟨⟨bo,q1⟩,_⟩:=hkeep _ p1;have:=gb1 _ bo q1;rw[bkin _ p1,p2]at this;exact⟨_,this⟩
  ·rw[gb2 n (nob n b hn hnk),F6 (DC ids),Kl,ab hnk,hn];exact⟨_,rfl⟩
 have oldR:∀n r,Ac aC n=some r->n∉ids->Ac R' n=some r:=by
  intro n r hn hnk;rw[gr2 n (nor n r hn hnk),Kl,ab hnk,hn]
 let Q:AC->Prop:=λa=>AC.wf aB aC a/\∀id∈ids,AC.free id a
 have hagree:∀a,Q a->a.agree ρ (E1 ρ ρ2 mb' mr' bk bi):=by
  rintro a ⟨ha,hf⟩;have hp:∀l:List AC,(∀a∈l,AC.wfP aB a)->∀a∈l,a.agreeP ρ (E1 ρ ρ2 mb' mr' bk bi):=by
   intro l hl c hc;have:=hl c hc;cases c<;>first|exact obx _ this|trivial
  cases a with
  |ptr k o=>exact obx k ha
  |bsl k o=>exact obx k ha
  |own id _ _=>obtain⟨r,h1,_⟩:=ha;exact orv id ⟨r,h1⟩ (λhm=>hf id hm rfl)
  |rptr id _ _=>obtain⟨r,h1,_⟩:=ha;exact orv id ⟨r,h1⟩ (λhm=>hf id hm rfl)
  |clo f fs cs=>exact⟨hp fs ha.1,hp cs ha.2⟩
  |_=>trivial
 have hcc:∀(a:AC) (y:Value),Q a->CC ρ w a y->CC (E1 ρ ρ2 mb' mr' bk bi) w' a y:=λa y hq hy=>CC.mono (ρ':=E1 ρ ρ2 mb' mr' bk bi) him (λb hb=>hold b (fim b hb)) a y (hagree a hq) hy;have hwfQ:∀a,Q a->AC.wf B' R' a:=by
  rintro a ⟨ha,hf⟩;cases a with
  |ptr k o=>obtain⟨b,hb⟩:=ha;exact oldB k b hb
  |bsl k o=>obtain⟨b,hb⟩:=ha;exact oldB k b hb
  |own id _ _=>obtain⟨r,h1,h2⟩:=ha;exact⟨r,oldR id r h1 (λhm=>hf id hm rfl),h2⟩
  |rptr id _ _=>obtain⟨r,h1,h2⟩:=ha;exact⟨r,oldR id r h1 (λhm=>hf id hm rfl),h2⟩
  |vptr=>exact ha
  |clo f fs cs=>exact⟨λc hc=>AC.wfP_mono oldB (ha.1 c hc),λc hc=>AC.wfP_mono oldB (ha.2 c hc)⟩
  |_=>trivial
 have newwf:∀a,AC.wf mb' mr' a->AC.wf B' R' (a.ren bk bi):=λa ha=>
  SP (Kp:=λk=>∃b,Ac mb' k=some b) (Ip:=λi=>∃r,Ac mr' i=some r) (λk _ ⟨b,hb⟩=>⟨_,gb1 k b hb⟩) (λi r _ hr=>⟨r,gr1 i r hr,rfl,rfl⟩) (AC.nm_of_wf ha) ha
 have fTV:∀v∈tm.map (H4 ids),TV.wf aB aC v/\∀id∈ids,TV.free id v:=by
  intro v hv;simp only[ba]at hv;obtain⟨u,hu,rfl⟩:=hv;exact⟨Q05 ids (hR.wt u hu),λid hid=>Q3p ids u id hid⟩
 have qTV:∀v∈tm.map (H4 ids),(match v with| .v _ cs=>∀a∈cs,Q a| .tup ps=>∀p∈ps,∀a∈p.2,Q a| .dead=>True):=by
  intro v hv;obtain⟨h1,h2⟩:=fTV v hv;cases v with
  |dead=>trivial
  |v g cs=>exact λa ha=>⟨h1 a ha,λid hid=>h2 id hid a ha⟩
  |tup ps=>exact λp hp a ha=>⟨h1 p hp a ha,λid hid=>h2 id hid p hp a ha⟩
 have qB:∀n b0,Ac aB n=some b0->∀a∈(DC ids b0).cells,Q a:=λn b0 hn a ha=>⟨Qwh ids (hR.wb n b0 hn) a ha,λid hid=>Q76 ids b0 id hid a ha⟩;have hvwf:TV.wf mb' mr' v:=hR2.wt v (by simp);refine⟨⟨by simpa using hR.tl,λi v hi=> ?_,λv hv=> ?_,λn b hn a ha=> ?_,λn b hn=> ?_,λn n' b b' hn hn' he=> ?_,λn r hn=> ?_,λn n' r r' g hn hn' hg hg'=> ?_,λn b m r hn hm=> ?_,λb hb=>⟨(hR2.ib b hb).1,λn bo hn=> ?_,λn r hn=> ?_⟩,?_,?_,λb hb=>him b (hR.i0 b hb),λb hb=> ?_,λk b hk=> ?_⟩,?_,?_⟩
 ·have hv:=bn hi;simp only[List.getElem?_map,bm]at hi;obtain⟨u,hu,rfl⟩:=hi;exact TVR.mono2 hcc (qTV _ hv) (Q34 ids (hR.tv i u hu))
 ·have:=qTV v hv;cases v with
  |dead=>trivial
  |v g cs=>exact λa ha=>hwfQ a (this a ha)
  |tup ps=>exact λp hp a ha=>hwfQ a (this p hp a ha)
 ·rcases caseB n b hn with⟨k,b0,h1,rfl,rfl⟩|⟨hnk,b0,h1,rfl⟩
  ·simp only[ba]at ha;obtain⟨c,hc,rfl⟩:=ha;exact newwf c (hR2.wb k b0 h1 c hc)
  ·exact hwfQ a (qB n b0 h1 a ha)
 ·rcases caseB n b hn with⟨k,b0,h1,rfl,rfl⟩|⟨hnk,b0,h1,rfl⟩
  ·obtain⟨arr,q1,q2,q3⟩:=hR2.bx k b0 h1;refine⟨arr,by rw[ebx k ⟨b0,h1⟩];exact q1,QK (Kp:=λk=>∃b,Ac mb' k=some b) (Ip:=λi=>∃r,Ac mr' i=some r) ebx erv rfl (λc hc=>AC.nm_of_wf (hR2.wb k b0 h1 c hc)) q2,?_⟩;rw[ebx k ⟨b0,h1⟩];exact λhf=>q3 (fz _ hf)
  ·obtain⟨arr,q1,q2,q3⟩:=hR.bx n b0 h1;rw[obx n ⟨b0,h1⟩];refine⟨arr,by rw[hold _ (fbx n b0 h1 hnk),Qvk];exact q1,?_,q3⟩;exact(Qto ids q2).mono λa ha y hy=>hcc a y (qB n b0 h1 a ha) hy
 ·rcases caseB n b hn with⟨k,b0,h1,rfl,_⟩|⟨hnk,b0,h1,_⟩<;>rcases caseB n' b' hn' with⟨k',b0',h1',rfl,_⟩|⟨hnk',b0',h1',_⟩
  ·rw[ebx k ⟨b0,h1⟩,ebx k' ⟨b0',h1'⟩]at he;rw[hR2.bi k k' _ _ h1 h1' he]
  ·rw[ebx k ⟨b0,h1⟩,obx n' ⟨b0',h1'⟩]at he;obtain⟨_,_,_,q3⟩:=hR2.bx k b0 h1;exact absurd (he▸fbx n' b0' h1' hnk') q3
  ·rw[obx n ⟨b0,h1⟩,ebx k' ⟨b0',h1'⟩]at he;obtain⟨_,_,_,q3⟩:=hR2.bx k' b0' h1';exact absurd (he▸fbx n b0 h1 hnk) q3
  ·rw[obx n ⟨b0,h1⟩,obx n' ⟨b0',h1'⟩]at he;exact hR.bi n n' _ _ h1 h1' he
 ·rcases caseR n r hn with⟨k,h1,rfl⟩|⟨hnk,h1⟩
  ·obtain⟨q1,q2,q0,ys,q3,q4⟩:=hR2.ro k r h1;obtain⟨e1,e2⟩:=erv k ⟨r,h1⟩;rw[e1,e2];exact⟨q1,q2,λg hg hf=>q0 g hg (fz g hf),ys,q3,q4⟩
  ·obtain⟨q1,q2,q0,ys,q3,q4⟩:=hR.ro n r h1;obtain⟨e1,e2⟩:=orv n ⟨r,h1⟩ hnk;rw[e1,e2];exact⟨q1,q2,q0,ys,LE q3 λg hg=>hold g (frv n r g h1 hnk hg),q4.mono him (λb hb=>hold b (fim b hb))⟩
 ·rcases caseR n r hn with⟨k,h1,rfl⟩|⟨hnk,h1⟩<;>rcases caseR n' r' hn' with⟨k',h1',rfl⟩|⟨hnk',h1'⟩
  ·rw[(erv k ⟨r,h1⟩).1]at hg;rw[(erv k' ⟨r',h1'⟩).1]at hg';rw[hR2.ri k k' _ _ g h1 h1' hg hg']
  ·rw[(erv k ⟨r,h1⟩).1]at hg;rw[(orv n' ⟨r',h1'⟩ hnk').1]at hg';obtain⟨_,_,q0,_⟩:=hR2.ro k r h1;exact absurd (frv n' r' g h1' hnk' hg') (q0 g hg)
  ·rw[(orv n ⟨r,h1⟩ hnk).1]at hg;rw[(erv k' ⟨r',h1'⟩).1]at hg';obtain⟨_,_,q0,_⟩:=hR2.ro k' r' h1';exact absurd (frv n r g h1 hnk hg) (q0 g hg')
  ·rw[(orv n ⟨r,h1⟩ hnk).1]at hg;rw[(orv n' ⟨r',h1'⟩ hnk').1]at hg';exact hR.ri n n' _ _ g h1 h1' hg hg'
 ·rcases caseB n b hn with⟨k,b0,h1,rfl,_⟩|⟨hnk,b0,h1,_⟩<;>rcases caseR m r hm with⟨k',h1',rfl⟩|⟨hmk,h1'⟩
  ·rw[ebx k ⟨b0,h1⟩,(erv k' ⟨r,h1'⟩).1];exact hR2.br k b0 k' r h1 h1'
  ·rw[ebx k ⟨b0,h1⟩,(orv m ⟨r,h1'⟩ hmk).1];intro e;obtain⟨_,_,_,q3⟩:=hR2.bx k b0 h1;exact q3 (frv m r _ h1' hmk e)
  ·rw[obx n ⟨b0,h1⟩,(erv k' ⟨r,h1'⟩).1];intro e;obtain⟨_,_,q0,_⟩:=hR2.ro k' r h1';exact q0 _ e (fbx n b0 h1 hnk)
  ·rw[obx n ⟨b0,h1⟩,(orv m ⟨r,h1'⟩ hmk).1];exact hR.br n b0 m r h1 h1'
 ·rcases caseB n bo hn with⟨k,b0,h1,rfl,_⟩|⟨hnk,b0,h1,_⟩
  ·rw[ebx k ⟨b0,h1⟩];exact(hR2.ib b hb).2.1 k b0 h1
  ·rw[obx n ⟨b0,h1⟩];rcases him2 b hb with hb2|hb2
   ·exact(hR.ib b hb2).2.1 n b0 h1
   ·exact λe=>hb2 (e▸fbx n b0 h1 hnk)
 ·rcases caseR n r hn with⟨k,h1,rfl⟩|⟨hnk,h1⟩
  ·rw[(erv k ⟨r,h1⟩).1];exact(hR2.ib b hb).2.2 k r h1
  ·rw[(orv n ⟨r,h1⟩ hnk).1];rcases him2 b hb with hb2|hb2
   ·exact(hR.ib b hb2).2.2 n r h1
   ·exact λe=>hb2 (frv n r b h1 hnk e)
 ·exact hR.fr.trans ⟨hR2.fr.os,hR2.fr.tape,hR2.fr.output,hR2.fr.size,λk hk=>hold k (fz k hk)⟩
 ·exact λk hk=>dq (hR.fs k hk) hsz
 ·rcases him2 b hb with hb2|hb2
  ·exact hR.i1 b hb2
  ·exact .inr λhf=>hb2 (fz b hf)
 ·obtain⟨q1,bo,q2⟩:=hR.k0 k b hk;exact⟨by rw[obx k ⟨bo,q2⟩];exact q1,oldB k bo q2⟩
 ·have htv:TVR ρ2 w' v x:=by simpa using hR2.tv 0 v rfl
  exact Q4v (Kp:=λk=>∃b,Ac mb' k=some b) (Ip:=λi=>∃r,Ac mr' i=some r) ebx erv rfl (TV.nm_of_wf hvwf) htv
 ·exact Qz2 (Kp:=λk=>∃b,Ac mb' k=some b) (Ip:=λi=>∃r,Ac mr' i=some r) (λk _ ⟨b,hb⟩=>⟨_,gb1 k b hb⟩) (λi r _ hr=>⟨r,gr1 i r hr,rfl,rfl⟩) (TV.nm_of_wf hvwf) hvwf
theorem Qi1 {α:Type} {l:List (Nat×α)} {k:Nat} (h:H1 l k=true):Ac l k=none:=by
 unfold H1 at h;split at h
 ·cases h
 ·assumption
theorem Zfg (hspec:Ai P C) (hR:RelE Z tm aB aC ρ tmps w) {o:Oper} {a:Act} {f:FuncId} {args:List TV} {xs:List Value} (h1:xs.length=args.length)
  (h2:∀(i:Nat) (a:TV) (x:Value),args[i]? =some a->xs[i]? =some x->TVR ρ w a x) (h3:execOp a.eval o=callFunc f xs.toArray) (hwf:∀v∈args,TV.wf aB aC v) {K:TV->St->Option R} {r:R}
  (h:A3 C o.dst (.callM f args) ⟨tm,aB,aC⟩ K=some r) {next:Act->World->Prop} {Q:Exit->Act->World->Prop}
  (hnext:∀(v:TV) (tm':List TV) (boxes':List (Nat×Box)) (rows':List (Nat×Row)) (ρ':Env) (x:Value) (w':World),K v ⟨tm',boxes',rows'⟩=some r->RelE Z tm' boxes' rows' ρ' tmps w'->TVR ρ' w' v x->TV.wf boxes' rows' v->next (a.put o.dst x) w'):
  o.wp P a w next Q:=by
 simp only[A3]at h;split at h
 ·rename_i g hg;have hsp:=hspec.1 f g hg;simp only[Ba]at h;generalize hk:Ln aB 4 (AX (cat AC.keys (cat TV.cellsOf args)) [])=keys at h;generalize hi:Nk aB (cat TV.cellsOf args) keys=ids at h;clear hk hi;cases hc:(Ak (TV.inK keys ids) args&&Ak (λk=>Ak (AC.inK keys ids) (EE aB k)) keys&&BL keys&&BL ids)<;>rw[hc]at h
  ·simp at h
  ·simp only[ah]at h;simp only[aj]at hc;obtain⟨⟨⟨c1,c2⟩,c3⟩,c4⟩:=hc;split at h
   ·rename_i mb mr hmb hmr;have hkd:=Ik.1 c3;have hidd:=Ik.1 c4;obtain⟨v,⟨mb',mr'⟩,hv,hpc⟩:=hsp.run h;have hent:=Qdz hR h1 h2 hwf hkd hidd (λv hv=>Ax.1 c1 v hv) (λk hk=>Ax.1 c2 k hk) hmb hmr;refine TD h3 ((hpc _ w _ xs hent).mono ?_);rintro e w' ⟨x,ρ2,he,hR2⟩;dsimp only at hv;cases hc2:(Ak (λp:Nat×Box=>Ej mb' p.1) mb&&BL (mb'.map (·.1))&&BL (mr'.map (·.1))&&Ak (λk=>H1 aB (BJ keys (Bk keys mb') (o.dst.getD 0) k)) (Bk keys mb')&&Ak (λk=>H1 aC (BJ ids (Bk ids mr') (o.dst.getD 0) k)) (Bk ids mr')&&Nat.ble (Bk keys mb').length 100&&Nat.ble (Bk ids mr').length 100)<;>rw[hc2]at hv
    ·simp at hv
    ·simp only[ah]at hv;simp only[aj]at hc2;obtain⟨⟨⟨⟨⟨⟨_,d2⟩,d3⟩,d4⟩,d5⟩,_⟩,_⟩:=hc2;obtain⟨e1,e2,e3⟩:=Ql5 hR hkd hidd hmb hmr hR2 (d:=o.dst.getD 0) (Ik.1 d2) (Ik.1 d3) (λk hk=>Qi1 (Ax.1 d4 k hk)) (λk hk=>Qi1 (Ax.1 d5 k hk));exact⟨x,he,hnext _ _ _ _ _ x w' hv e1 e2 e3⟩
   ·simp at h
 ·simp at h
theorem RelE.cong {boxes':List (Nat×Box)} (h:RelE Z tm aB aC ρ tmps w) (hl:∀k,Ac boxes' k=Ac aB k):RelE Z tm boxes' aC ρ tmps w:=by
 have ha:∀a,AC.wf aB aC a->AC.wf boxes' aC a:=λa=>AC.wf_mono (λk b hk=>⟨b,by rw[hl];exact hk⟩) (λk r hk=>⟨r,hk,rfl,rfl⟩);exact⟨h.tl,h.tv,λv hv=>TV.wf_mono ha (h.wt v hv),λk b hk a ha'=>ha a (h.wb k b (by rw[<-hl];exact hk) a ha'),
  λk b hk=>h.bx k b (by rw[<-hl];exact hk),λk k' b b' hk hk'=>h.bi k k' b b' (by rw[<-hl];exact hk) (by rw[<-hl];exact hk'),h.ro,h.ri,
  λk b id r hk=>h.br k b id r (by rw[<-hl];exact hk),λb hb=>⟨(h.ib b hb).1,λk bo hk=>(h.ib b hb).2.1 k bo (by rw[<-hl];exact hk),(h.ib b hb).2.2⟩,
  h.fr,h.fs,h.i0,h.i1,λk b hk=>⟨(h.k0 k b hk).1,by rw[hl];exact(h.k0 k b hk).2⟩⟩
theorem Qsf {keys:List Nat} (hkd:keys.Nodup):∀{m l:List (Nat×Box)},(m.map (·.1)).Nodup->(∀k∈m.map (·.1),base<=k/\k-base<keys.length)->(∀k∈keys,∃b,Ac l k=some b)->
  (∀k b,Ac m k=some b->Ac (Cw keys m l) (nth 0 keys (k-base))=some b)/\(∀n,(∀k∈m.map (·.1),n≠nth 0 keys (k-base))->Ac (Cw keys m l) n=Ac l n)
 |[],l,_,_,_=>⟨λk b h=>by simp[Ac]at h,λn _=>rfl⟩
 |(j,c)::m,l,hd,hi,hn=>by
  simp only[bf,List.nodup_cons]at hd;have hj:=hi j (by simp);have hne:∀k∈m.map (·.1),nth 0 keys (j-base)≠nth 0 keys (k-base):=λk hk e=>by
   have hk':=hi k (by simp at hk⊢;exact .inr hk);have e':=congrArg (pos keys) e;rw[Iy hkd hj.2,Iy hkd hk'.2]at e';have:k=j:=by omega
   subst this;exact hd.1 hk
  obtain⟨y,hy⟩:=hn _ (Fv hj.2);obtain ⟨h1, h2⟩ := Qsf hkd (m := m) (l := upd l (nth 0 keys (j - base)) c) hd.2 (λk hk => hi k (by simp at hk ⊢; exact .inr hk)) (λk hk => by
   by_cases e:k=nth 0 keys (j-base)
   ·subst e;exact⟨c,EG _ _ _ _ hy⟩
   ·rw[Dc _ _ _ _ e];exact hn k hk)
  refine⟨λk b hk=> ?_,λn hnn=> ?_⟩
  ·simp only[Ac]at hk;simp only[Cw];cases hb:Nat.beq j k<;>rw[hb]at hk
   ·exact h1 k b hk
   ·have:=ac hb;subst this;simp at hk;subst hk;rw[h2 _ hne];exact EG _ _ _ _ hy
  ·simp only[Cw];rw[h2 n (λk hk=>hnn k (by simp at hk⊢;exact .inr hk))];exact Dc _ _ _ _ (hnn j (by simp))
theorem Zxs {rk ri:Nat->Nat} {a:AC} (h:a.calm=true):a.ren rk ri=a:=by cases a<;>simp[AC.calm]at h<;>rfl
theorem Rl {rk ri:Nat->Nat}:∀{l:List AC},Ak AC.calm l=true->l.map (AC.ren rk ri)=l
 |[],_=>rfl
 |a::l,h=>by
  rw[Ax]at h;simp only[bf];rw[Zxs (h a (by simp)),Rl (Ax.2 λx hx=>h x (by simp[hx]))]
theorem Qvx {a:AC} (h:a.plain=true):a.calm=true:=by cases a<;>simp[AC.plain]at h<;>rfl
theorem Wi {rk ri:Nat->Nat} {v:TV} (h:v.plainB=true):v.ren rk ri=v:=by
 cases v with
 |dead=>rfl
 |v g cs=>
  simp only[TV.plainB,Ax]at h;simp only[TV.ren];rw[Rl (Ax.2 λa ha=>Qvx (h a ha))]
 |tup ps=>
  simp only[TV.plainB,Ax]at h;simp only[TV.ren];congr 1
  conv=>rhs;rw[<-List.map_id ps]
  apply List.map_congr_left;intro p hp;rw[Rl (Ax.2 λa ha=>Qvx (h p hp a ha))];rfl
theorem UE {α:Type} {l:List (Nat×α)} {k:Nat} (h:Ej l k=true):∃b,Ac l k=some b:=by
 unfold Ej at h;split at h
 ·rename_i b hb;exact⟨b,hb⟩
 ·cases h
theorem Zne {keys:List Nat} (hkd:keys.Nodup) {mb mb':List (Nat×Box)} (hmb:Du aB (λk=>base+pos keys k) (λi=>base+pos [] i) base keys=some mb)
  (h1:∀p∈mb,Ej mb' p.1=true) (h2:∀p∈mb',Ej mb p.1=true) (h3:(mb'.map (·.1)).Nodup) (h4:∀p∈mb',Ak AC.calm p.2.cells=true) (bi:Nat->Nat) (d:Nat) (k:Nat):
  Ac (Cw keys mb' aB) k=Ac (Mg (BJ keys [] d) bi mb' ((DZ keys aB).map λp=>(p.1,DC [] p.2))) k:=by
 obtain⟨b1,b2⟩:=LI hmb;have hin:∀k∈mb'.map (·.1),base<=k/\k-base<keys.length:=by
  intro k hk;simp only[ba]at hk;obtain⟨p,hp,rfl⟩:=hk;obtain⟨b,hb⟩:=UE (h2 p hp);obtain⟨i,hi,e⟩:=b2 _ _ hb;omega
 have hall:∀i,i<keys.length->∃b,Ac mb' (base+i)=some b:=by
  intro i hi;obtain⟨x,_,q⟩:=b1 i hi;exact UE (h1 _ (NT q))
 have hkb:∀k∈keys,∃b,Ac aB k=some b:=λk hk=>by
  obtain⟨x,q,_⟩:=b1 (pos keys k) (D9 hk).1;rw[(D9 hk).2]at q;exact⟨x,q⟩
 have hbk:∀k∈mb'.map (·.1),BJ keys [] d k=nth 0 keys (k-base):=λk hk=>K4 (hin k hk);obtain⟨u1,u2⟩:=Qsf (l:=aB) hkd h3 hin hkb;have hdel:∀n,Ac ((DZ keys aB).map λp=>(p.1,DC [] p.2)) n=if n∈keys then none else Ac aB n:=by
  intro n;rw[F6,Kl];split
  ·rfl
  ·cases Ac aB n<;>rfl
 have hinj:∀k∈mb'.map (·.1),∀j∈mb'.map (·.1),BJ keys [] d k=BJ keys [] d j->k=j:=by
  intro k hk j hj e;rw[hbk k hk,hbk j hj]at e;have e':=congrArg (pos keys) e;rw[Iy hkd (hin k hk).2,Iy hkd (hin j hj).2]at e';have:=hin k hk;have:=hin j hj;omega
 rw[Qnn];obtain ⟨v1, v2⟩ := TL (rk := BJ keys [] d) (g := λb : Box => (⟨b.ty, b.cells.map (AC.ren (BJ keys [] d) bi)⟩ : Box)) (m := mb') (l := (DZ keys aB).map λp => (p.1, DC [] p.2)) h3 hinj (λk hk => by
  rw[hdel,hbk k hk,aa (Fv (hin k hk).2)])
 by_cases hk:k∈keys
 ·obtain⟨hp,hn⟩:=D9 hk;obtain⟨b,hb⟩:=hall _ hp;have e1:=u1 _ b hb;have e2:=v1 _ b hb;rw[hbk _ (K5.2 ⟨b,hb⟩)]at e2;rw[show base+pos keys k-base=pos keys k from by omega,hn]at e1 e2;rw[e1,e2];have:=h4 _ (NT hb);rw[Rl this]
 ·rw[u2 k (λj hj e=>hk (by rw[e];exact Fv (hin j hj).2)),v2 k (λj hj e=>hk (by rw[e,hbk j hj];exact Fv (hin j hj).2)),hdel,ab hk]
theorem Zzf (hspec:Ai P C) (hR:RelE Z tm aB aC ρ tmps w) {o:Oper} {a:Act} {f:FuncId} {args:List TV} {xs:List Value} (h1:xs.length=args.length)
  (h2:∀(i:Nat) (a:TV) (x:Value),args[i]? =some a->xs[i]? =some x->TVR ρ w a x) (h3:execOp a.eval o=callFunc f xs.toArray) (hwf:∀v∈args,TV.wf aB aC v) {K:TV->St->Option R} {r:R}
  (h:A3 C o.dst (.callD f args) ⟨tm,aB,aC⟩ K=some r) {next:Act->World->Prop} {Q:Exit->Act->World->Prop}
  (hnext:∀(v:TV) (tm':List TV) (boxes':List (Nat×Box)) (rows':List (Nat×Row)) (ρ':Env) (x:Value) (w':World),K v ⟨tm',boxes',rows'⟩=some r->RelE Z tm' boxes' rows' ρ' tmps w'->TVR ρ' w' v x->TV.wf boxes' rows' v->next (a.put o.dst x) w'):
  o.wp P a w next Q:=by
 simp only[A3]at h;split at h
 ·rename_i g hg;have hsp:=hspec.1 f g hg;simp only[Ba]at h;generalize hk:AX (cat AC.keys (cat TV.cellsOf args)) []=keys at h;clear hk;cases hc:(Ak (TV.inK keys []) args&&Ak (λk=>Ak AC.calm (EE aB k)) keys&&BL keys)<;>rw[hc]at h
  ·simp at h
  ·simp only[ah]at h;simp only[aj]at hc;obtain⟨⟨c1,c2⟩,c3⟩:=hc;have c2':Ak (λk=>Ak (AC.inK keys []) (EE aB k)) keys=true:=by
    rw[Ax]at c2⊢;intro k hk;have:=c2 k hk;rw[Ax]at this⊢;intro b hb;have:=this b hb;cases b<;>simp[AC.calm]at this<;>rfl
   split at h
   ·rename_i mb hmb;have hkd:=Ik.1 c3;obtain⟨v,⟨mb',mr'⟩,hv,hpc⟩:=hsp.run h;have hent:=Qdz hR h1 h2 hwf hkd List.nodup_nil (λv hv=>Ax.1 c1 v hv) (λk hk=>Ax.1 c2' k hk) hmb (show F4 aC base []=some []from rfl);refine TD h3 ((hpc _ w _ xs hent).mono ?_);rintro e w' ⟨x,ρ2,he,hR2⟩;cases mr' with
    |cons _ _=>simp at hv
    |nil=>
     dsimp only at hv;cases hc2:(Ak (λp:Nat×Box=>Ej mb' p.1) mb&&Ak (λp:Nat×Box=>Ej mb p.1) mb'&&BL (mb'.map (·.1))&&Ak (λp:Nat×Box=>Ak AC.calm p.2.cells) mb'&&v.plainB)<;>rw[hc2]at hv
     ·simp at hv
     ·simp only[ah]at hv;simp only[aj]at hc2;obtain⟨⟨⟨⟨d1,d2⟩,d3⟩,d4⟩,d5⟩:=hc2;have hfr:Bk keys mb'=[]:=by
       apply List.eq_nil_iff_forall_not_mem.2;intro k hk;obtain⟨q1,q2⟩:=IQ.1 hk;simp only[ba]at q1;obtain⟨p,hp,rfl⟩:=q1;obtain⟨b,hb⟩:=UE (Ax.1 d2 p hp);obtain⟨i,hi,e⟩:=(LI hmb).2 _ _ hb;exact q2 (by omega)
      obtain⟨e1,e2,e3⟩:=Ql5 hR hkd List.nodup_nil hmb (show F4 aC base []=some []from rfl) hR2 (d:=o.dst.getD 0) (Ik.1 d3) List.nodup_nil (λk hk=>by rw[hfr]at hk;simp at hk) (λk hk=>by simp[Bk]at hk);rw[hfr]at e1 e2 e3;have hlk:=Zne hkd hmb (Ax.1 d1) (Ax.1 d2) (Ik.1 d3) (Ax.1 d4) (BJ [] (Bk [] ([]:List (Nat×Row))) (o.dst.getD 0)) (o.dst.getD 0);have e1':=e1.cong hlk;have htm:tm.map (H4 [])=tm:=by
       conv=>rhs;rw[<-List.map_id tm]
       rfl
      rw[htm]at e1';rw[Wi d5]at e2;exact⟨x,he,hnext _ _ _ _ _ x w' hv e1' e2 (Ko d5)⟩
   ·simp at h
 ·simp at h
theorem Z6p {keys ids:List Nat} {v:TV} (h:v.plainB=true):TV.inK keys ids v=true:=by
 cases v with
 |dead=>rfl
 |v g cs=>
  simp only[TV.plainB,TV.inK]at h⊢;rw[Ax]at h⊢;intro a ha;have:=h a ha;cases a<;>simp[AC.plain]at this<;>rfl
 |tup ps=>
  simp only[TV.plainB,TV.inK]at h⊢;rw[Ax]at h⊢;intro p hp;have:=h p hp;rw[Ax]at this⊢;intro a ha;have:=this a ha;cases a<;>simp[AC.plain]at this<;>rfl
theorem Q6v {rk ri:Nat->Nat}:∀{args:List TV},Ak TV.plainB args=true->args.map (TV.ren rk ri)=args
 |[],_=>rfl
 |a::l,h=>by
  simp only[Ak]at h;obtain⟨h1,h2⟩:=cond_none' h;simp only[bf];rw[Wi h1,Q6v h2]
 where cond_none' {c p:Bool} (h:cond c p false=true):c=true/\p=true:=by cases c<;>simp at h;exact⟨rfl,h⟩
theorem Qty (x:Nat):x.blt 0=false:=rfl
theorem Zrq (j:Nat) (r:Row):Bk [] [(j,r)]=[j]:=by
 have hblt:(base.ble j&&(j-base).blt 0)=false:=by
  rw[Qty,Bool.and_false]
 unfold Bk;simp only[cd,hblt,an];rfl
theorem Zrk (j d:Nat):BJ [] [j] d j=HD d:=by
 have hblt:(base.ble j&&(j-base).blt 0)=false:=by
  rw[Qty,Bool.and_false]
 unfold BJ HD;simp only[cd,hblt,an,pos,Nat.beq_refl,ah,Nat.add_zero]
theorem Zc4 (hspec:Ai P C) (hR:RelE Z tm aB aC ρ tmps w) {o:Oper} {a:Act} {f:FuncId} {args:List TV} {xs:List Value} (h1:xs.length=args.length)
  (h2:∀(i:Nat) (a:TV) (x:Value),args[i]? =some a->xs[i]? =some x->TVR ρ w a x) (h3:execOp a.eval o=callFunc f xs.toArray) (hwf:∀v∈args,TV.wf aB aC v) {K:TV->St->Option R} {r:R}
  (h:A3 C o.dst (.callF f args) ⟨tm,aB,aC⟩ K=some r) {next:Act->World->Prop} {Q:Exit->Act->World->Prop}
  (hnext:∀(v:TV) (tm':List TV) (boxes':List (Nat×Box)) (rows':List (Nat×Row)) (ρ':Env) (x:Value) (w':World),K v ⟨tm',boxes',rows'⟩=some r->RelE Z tm' boxes' rows' ρ' tmps w'->TVR ρ' w' v x->TV.wf boxes' rows' v->next (a.put o.dst x) w'):
  o.wp P a w next Q:=by
 simp only[A3]at h;split at h
 ·rename_i g hg;have hsp:=hspec.1 f g hg;cases hpl:Ak TV.plainB args<;>rw[hpl]at h
  ·simp at h
  simp only[ah]at h;obtain⟨v,⟨mb',mr'⟩,hv,hpc⟩:=hsp.run h;have hent:=Qdz hR h1 h2 hwf List.nodup_nil List.nodup_nil (keys:=[]) (ids:=[]) (λv hv=>Z6p (Ax.1 hpl v hv)) (λk hk=>by simp at hk) (show Du aB _ _ base []=some []from rfl) (show F4 aC base []=some []from rfl);rw[Q6v hpl]at hent;refine TD h3 ((hpc _ w _ xs hent).mono ?_);rintro e w' ⟨x,ρ2,he,hR2⟩;have htm:tm.map (H4 [])=tm:=by
   conv=>rhs;rw[<-List.map_id tm]
   rfl
  have hbx:(DZ [] aB).map (λp=>(p.1,DC [] p.2))=aB:=by
   conv=>rhs;rw[<-List.map_id aB]
   rfl
  cases mb' with
  |cons _ _=>simp at hv
  |nil=>
  have hlv:(mr'.map (·.1)).Nodup->(∀k∈Bk [] mr',Ac aC (BJ [] (Bk [] mr') (o.dst.getD 0) k)=none)->_:=λd1 d2=>
   Ql5 hR List.nodup_nil List.nodup_nil (show Du aB _ _ base []=some []from rfl) (show F4 aC base []=some []from rfl) hR2 (d:=o.dst.getD 0) (by simp) d1 (λk hk=>by simp[Bk]at hk) d2
  cases mr' with
  |nil=>
   dsimp only at hv;cases hvp:v.plainB<;>rw[hvp]at hv
   ·simp at hv
   simp only[ah]at hv;obtain⟨e1,e2,e3⟩:=hlv (by simp) (λk hk=>by simp[Bk]at hk);rw[htm,hbx]at e1;rw[Wi hvp]at e2;exact⟨x,he,hnext _ _ _ _ _ x w' hv e1 e2 (Ko hvp)⟩
  |cons p l=>
   obtain⟨k,rw0⟩:=p;cases l with
   |cons _ _=>simp at hv
   |nil=>
    dsimp only at hv;split at hv
    ·rename_i j w0 n0;cases hjk:Nat.beq j k<;>rw[hjk]at hv
     ·simp at hv
     simp only[ah]at hv;have hjk:=ac hjk;subst hjk;split at hv
     ·simp at hv
     rename_i hnone;simp only[Ba]at hv;have hf:=Zrq j rw0;have hb:=Zrk j (o.dst.getD 0);obtain ⟨e1, e2, e3⟩ := hlv (by simp) (λk hk => by
      rw[hf]at hk⊢;simp at hk;subst hk;rw[hb];exact hnone)
     rw[htm,hbx]at e1;rw[hbx]at e3;have hwv:=hR2.wt (.v false [.own j w0 n0]) (by simp) (.own j w0 n0) (by simp);obtain⟨r1,hr1,hn1,hw1⟩:=hwv;simp only[Ac,Nat.beq_refl,ah,ap]at hr1;subst hr1;have hren:TV.ren (BJ [] (Bk ([]:List Nat) ([]:List (Nat×Box))) (o.dst.getD 0)) (BJ [] (Bk [] [(j,rw0)]) (o.dst.getD 0)) (.v false [.own j w0 n0])= .c (.own (HD (o.dst.getD 0)) rw0.ks.length rw0.l.length):=by
      simp only[TV.ren,bf,dh,AC.ren,hf,hb];rw[<-hw1,<-hn1]
     have hins:J9 (BJ [] (Bk [] [(j,rw0)]) (o.dst.getD 0)) [(j,rw0)] (DZ [] aC)=ins aC (HD (o.dst.getD 0)) rw0:=by
      simp only[J9,hf,hb,DZ]
     have e1':=e1;rw[hins]at e1';have e2':=e2;rw[hren]at e2';have e3':=e3;rw[hren,hins]at e3';exact⟨x,he,hnext _ _ _ _ _ x w' hv e1' e2' e3'⟩
    ·simp at hv
 ·simp at h
end
open Go.RowKit
section
variable {P:Program} {C:Cfg} {ρ:Env} {w:World} {R:Type} {Z:Base} {tm:List TV} {aB:List (Nat×Box)} {aC:List (Nat×Row)} {tmps:Array Value}
theorem Zog {g:Bool} {sz off:Nat} {cells:List AC} {v:TV} (hv:DE g sz cells off=some v) (hb:∀a∈cells,AC.wf aB aC a):TV.wf aB aC v:=by
 unfold DE at hv;cases g
 ·simp only[an]at hv;split at hv
  ·rename_i c hc;simp at hv;subst hv;intro c' hc';simp at hc';subst hc';exact hb _ (bn hc)
  ·simp at hv
 ·simp only[ah]at hv;cases hbb:Nat.ble (off+sz) cells.length<;>rw[hbb]at hv
  ·simp at hv
  ·simp at hv;subst hv;intro c hc;exact hb c (de (dk hc))
theorem Zva {a a':TV} (hno:a.hasOwn=false) (hr:a.res aC=some a'):a=a':=by
 have hl:∀(cs cs':List AC),cs.any AC.isOwn=false->Fs aC cs=some cs'->cs=cs':=by
  intro cs;induction cs with
  |nil=>intro cs' _ h;simp[Fs]at h;rw[h]
  |cons b cs ih=>
   intro cs' hno h;simp only[List.any_cons,Bool.or_eq_false_iff]at hno;simp only[Fs]at h;split at h
   ·rename_i b' hb';split at h
    ·rename_i l' hl';simp at h;subst h;rw[ih _ hno.2 hl'];have h1:=hno.1;cases b<;>simp only[AC.res]at hb'<;>first|(simp at hb';done)|(simp[AC.isOwn]at h1;done)|(simp at hb';subst hb';rfl)
    ·simp at h
   ·simp at h
 cases a with
 |dead=>simp[TV.res]at hr
 |tup=>simp[TV.res]at hr
 |v g cs=>
  simp only[TV.res]at hr;split at hr
  ·rename_i l h;simp at hr;subst hr;rw[hl _ _ hno h]
  ·simp at hr
theorem Zf4 {t e:TypeId} {i:TypeInfo} {z:Value} (ht:P.underlying t=some (.slice e)) (hi:P.info? e=some i) (hz:i.zero=some z) {kl kc:IntKind} {n:Nat} (hb:n*i.bytes<=140737488355328) (hn:n<=140737488355328):
  ∃(w':World) (arr:Array Value),(Instr.makeSlice t (.int kl (n:Int)) (.int kc (n:Int))).run P w= .ok (.slice (some ⟨w.heap.size,0,none⟩) n n) w'/\w'=w.alloc (.cells arr e)/\
   arr.toList=(List.range (n*i.size)).map λj=>z.cells[j%z.cells.size]! :=by
 have e1:((n*i.bytes:Nat):Int)=(n:Int)*(i.bytes:Int):=Int.natCast_mul _ _;have e2:(i.bytes:Int)*(n:Int)<=281474976710656:=by rw[Int.mul_comm];omega
 have h:=run_make w t e i z ht hi hz kl kc (n:Int) (n:Int) (by omega) (df _) e2 (by omega);rw[ak]at h;exact⟨_,madeCells z.cells (n*i.size),h,rfl,by simp[madeCells]⟩
theorem WL (hspec:Ai P C) (hR:RelE Z tm aB aC ρ tmps w) {o:Oper} {a:Act} {p:Prim} (hp:Jn P ρ w a.eval o p) (hwf:Prim.wf aB aC p) (hna:Prim.isApp (some p)=false) {K:TV->St->Option R} {r:R}
  (h:A3 C o.dst p ⟨tm,aB,aC⟩ K=some r) {next:Act->World->Prop} {Q:Exit->Act->World->Prop}
  (hnext:∀(v:TV) (tm':List TV) (boxes':List (Nat×Box)) (rows':List (Nat×Row)) (ρ':Env) (x:Value) (w':World),K v ⟨tm',boxes',rows'⟩=some r->RelE Z tm' boxes' rows' ρ' tmps w'->TVR ρ' w' v x->TV.wf boxes' rows' v->next (a.put o.dst x) w'):
  o.wp P a w next Q:=by
 cases p with
 |val v=>
  obtain⟨x,h1,h2⟩:=hp;exact HL h1 (hnext v _ _ _ ρ x w h hR h2 hwf)
 |load g sz key off=>
  obtain⟨t,h1,h2,h3⟩:=hp;simp only[A3]at h;split at h
  ·rename_i b hk;split at h
   ·rename_i v hv;obtain⟨arr,q1,q2,q3⟩:=hR.bx key b hk;obtain ⟨x, q4, q5⟩ := Tj (b := ρ.bx key) (o := 0) h1 h2 hv q2 (λj y hj => by
     simp only[Nat.zero_add];rw[cell_of_row w _ j arr b.ty (0,0) q1];simpa using hj)
    rw[Nat.zero_add]at q4;rw[q4]at h3;refine HL h3 (hnext v _ _ _ ρ x w h hR q5 ?_);have hb:=hR.wb key b hk;unfold DE at hv;cases g
    ·simp only[an]at hv;split at hv
     ·rename_i c hc;simp at hv;subst hv;intro c' hc';simp at hc';subst hc';exact hb _ (bn hc)
     ·simp at hv
    ·simp only[ah]at hv;cases hbb:Nat.ble (off+sz) b.cells.length<;>rw[hbb]at hv
     ·simp at hv
     ·simp at hv;subst hv;intro c hc;exact hb c (de (dk hc))
   ·simp at h
  ·simp at h
 |store key off cs=>
  obtain⟨t,x,h1,h2,h3⟩:=hp;simp only[A3]at h;split at h
  ·rename_i b hk;cases hb:Nat.ble (off+cs.length) b.cells.length<;>rw[hb]at h
   ·simp at h
   ·simp only[ah,Ba]at h;have hle:=az hb;obtain⟨arr,q1,q2,q3⟩:=hR.bx key b hk;have hlen:=h2.length;rw[hlen]at h1 hle;have q4:=Zac h1 q1 (by rw[<-Array.length_toList,<-q2.length];exact hle) h2.one;rw[q4]at h3;refine Qss h3 (hnext .dead _ _ _ ρ undef _ h (hR.store hk ?_ ?_) trivial trivial)
    ·intro c hc;rw[F9 _ _ _ (by rw[hlen];exact hle)]at hc;simp only[bj]at hc;rcases hc with(hc|hc)|hc
     ·exact hR.wb key b hk c (dk hc)
     ·exact hwf.2 c hc
     ·exact hR.wb key b hk c (de hc)
    ·exact q2.splice off h2
  ·simp at h
 |new ty cs=>
  obtain⟨arr,h1,h2⟩:=hp;simp only[A3]at h;split at h
  ·rename_i d hd;split at h
   ·simp at h
   ·rename_i hn;simp only[Ba]at h;refine HL h2 (hnext _ _ _ _ _ _ _ h (hR.new hn hwf h1) ?_ ?_)
    ·refine TVR.c' ?_;simp only[CC,BM]
    ·intro c hc;simp at hc;subst hc;exact⟨_,EJ _ _ _ hn⟩
  ·simp at h
 |newS ty n cs=>
  obtain⟨arr,h1,h2⟩:=hp;simp only[A3]at h;split at h
  ·rename_i d hd;split at h
   ·simp at h
   ·rename_i hn;simp only[Ba]at h;refine HL h2 (hnext _ _ _ _ _ _ _ h (hR.new hn hwf h1) ?_ ?_)
    ·refine TVR.c' ?_;simp only[CC,BM]
    ·intro c hc;simp at hc;subst hc;exact⟨_,EJ _ _ _ hn⟩
  ·simp at h
 |rload g sz id idx sub=>
  obtain⟨t,b,h1,h2,hb,h3⟩:=hp;obtain⟨r0,hr0,hlt⟩:=hwf;simp only[A3,hr0]at h;split at h
  ·rename_i v hv;obtain⟨q1,q2,_,xs,q3,q4⟩:=hR.ro id r0 hr0;have hget:r0.l[idx]? =some r0.l[idx]:=ai hlt;have hcl:=q4.2.2 idx _ hget;have hf:r0.f idx=r0.l[idx]:=by
    show AN r0.ks (nth [] r0.l idx)=_;rw[B3,List.getD,hget];exact q4.2.1 _ (bq hlt)
   have hrd:PL w b (HI (ρ.rv id)+idx*r0.w) (cut xs (idx*r0.w) r0.w):=by
    intro j y hj;simp only[cut,List.getElem?_take]at hj;split at hj
    ·rw[List.getElem?_drop]at hj;have:=PK q3 hb (idx*r0.w+j) y hj;rw[<-Nat.add_assoc]at this;exact this
    ·simp at hj
   rw[hf]at hv;obtain⟨x,q5,q6⟩:=Tj (b:=b) (o:=HI (ρ.rv id)+idx*r0.w) (ρ:=ρ) h1 h2 hv (hcl.mono λ_ _ _ hh=>IT hh) hrd;rw[<-q2,Nat.add_assoc]at q5;rw[q5]at h3;exact HL h3 (hnext v _ _ _ ρ x w h hR q6 (Zog hv (Zm0 hcl)))
  ·simp at h
 |rstore id idx sub cs=>
  obtain⟨t,x,b,h1,h2,hb,h3⟩:=hp;obtain⟨r0,hr0,hlt⟩:=hwf;simp only[A3,hr0]at h;cases hc:(Nat.ble (sub+cs.length) r0.w&&Ak AC.plain cs)<;>rw[hc]at h
  ·simp at h
  ·simp only[ah]at h;split at h
   ·rename_i c hfit;simp only[Ba]at h;simp only[aj]at hc;have hle:=az hc.1;obtain⟨q1,q2,_,xs,q3,q4⟩:=hR.ro id r0 hr0;have hget:r0.l[idx]? =some r0.l[idx]:=ai hlt;have hf:r0.f idx=r0.l[idx]:=by
     show AN r0.ks (nth [] r0.l idx)=_;rw[B3,List.getD,hget];exact q4.2.1 _ (bq hlt)
    rw[hf]at hfit;rcases q3.2 with⟨e1,e2⟩|⟨g',oo,cap,cur,e1,e3,e4,e5,e6,e7⟩
    ·have:idx<r0.n:=hlt;omega
    ·have hbg:b=g':=by rw[e1]at hb;simp[Value.ownBlock]at hb;exact hb.symm
     subst hbg;have hlen:=h2.length;have hxs:=q4.1;have hbound:idx*r0.w+sub+cs.length<=r0.n*r0.w:=by
      have:idx*r0.w+r0.w<=r0.n*r0.w:=by
       calc idx*r0.w+r0.w=(idx+1)*r0.w:=by rw[Nat.add_mul,Nat.one_mul]
        _<=r0.n*r0.w:=be _ hlt
      omega
     have hcapb:r0.n*r0.w<=cap*r0.w:=be _ e4;rw[q2]at h3;rw[hlen]at h1 hle hbound;have hoff:HI (ρ.rv id)=oo:=by rw[e1];rfl
     rw[hoff]at h3;have q5:=Zac (off:=oo+(idx*r0.w+sub)) h1 e3 (by omega) h2.one;rw[q5]at h3;have hcurlen:oo+cap*r0.w<=cur.toList.length:=by rw[Array.length_toList];exact e6
     have hsd:(splice cur.toList (oo+(idx*r0.w+sub)) x.cells.toList).drop oo=splice (cur.toList.drop oo) (idx*r0.w+sub) x.cells.toList:=by
      rw[F9 _ _ _ (by omega),F9 _ _ _ (by rw[da];omega),List.append_assoc,List.drop_append_of_le_length (by rw[List.length_take];omega),List.drop_take,show oo+(idx*r0.w+sub)-oo=idx*r0.w+sub from by omega,List.drop_drop,List.append_assoc];congr 2;rw[Nat.add_assoc]
     have htk:((splice cur.toList (oo+(idx*r0.w+sub)) x.cells.toList).drop oo).take (r0.n*r0.w)=splice xs (idx*r0.w+sub) x.cells.toList:=by
      rw[hsd];have hLl:cap*r0.w<=(cur.toList.drop oo).length:=by rw[da];omega
      generalize cur.toList.drop oo=L at e7 hLl⊢;rw[F9 _ _ _ (by omega),F9 _ _ _ (by rw[hxs];exact hbound),<-e7];apply List.ext_getElem?;intro j;simp only[List.getElem?_take,List.getElem?_append,List.length_take,ao,List.getElem?_drop];by_cases hj:j<r0.n*r0.w
      ·rw[aa hj];by_cases j1:j<idx*r0.w+sub
       ·rw[aa (by omega),aa (by omega),aa (by omega),aa (by omega),aa (by omega),aa (by omega),aa hj]
       ·by_cases j2:j<idx*r0.w+sub+x.cells.toList.length
        ·rw[aa (by omega),ab (by omega),aa (by omega),ab (by omega)];congr 1;omega
        ·rw[ab (by omega),ab (by omega),aa (by omega)];congr 1;omega
      ·rw[ab hj,ab (by omega),ab (by omega)]
     have hng: ¬ρ.im b:=λhi=>(hR.ib b hi).2.2 id r0 hr0 hb;have hold:∀k,k≠b->(w.setRow b (splice cur.toList (oo+(idx*r0.w+sub)) x.cells.toList).toArray).heap[k]? =w.heap[k]? :=λk hk=>setRow_other w b k _ hk;have hmono:∀(a:AC) (y:Value),CP ρ.im w a y->CP ρ.im (w.setRow b (splice cur.toList (oo+(idx*r0.w+sub)) x.cells.toList).toArray) a y:=λa y hh=>CP.mono (λ_ h=>h) (λk hk=>hold k (λe=>hng (e▸hk))) a y hh;have hnew:CL (CP ρ.im w) c (splice (cut xs (idx*r0.w) r0.w) sub x.cells.toList)/\AN r0.ks c=c:=
      RW hfit (((q4.2.2 idx _ hget).mono λ_ _ _ hh=>IT hh).splice sub h2)
     have hturn:=hR.turnRow (id:=id) hr0 (r':=⟨r0.ty,r0.ks,r0.l.set idx c⟩) (v':=ρ.rv id)
      (xs:=splice xs (idx*r0.w+sub) x.cells.toList) (w':=w.setRow b (splice cur.toList (oo+(idx*r0.w+sub)) x.cells.toList).toArray)
      ⟨rfl,rfl,rfl,by simp,λk _ hk=>hold k (λe=>hk (by rw[e,hb]))⟩ rfl
      ⟨by simp only[Row.n,Row.w,List.length_set];rw[Lu];exact hxs, .inr ⟨b,oo,cap,_,by simp only[Row.n,List.length_set];exact e1,setRow_heap w b cur _ r0.ty _ e3,by simp only[Row.n,List.length_set];exact e4,e5,by simp only[List.size_toArray];rw[Lu];exact hcurlen,by simp only[Row.n,List.length_set];exact htk⟩⟩
      ⟨by simp only[List.length_set];rw[Lu];exact hxs,λc' hc'=>by
       rcases List.mem_or_eq_of_mem_set hc' with hc'|rfl
       ·exact q4.2.1 c' hc'
       ·exact hnew.2,λi c' hi=>by
       simp only[List.getElem?_set]at hi;by_cases hii:idx=i
       ·subst hii;rw[aa rfl,aa hlt]at hi;simp at hi;subst hi;have e:=Zw2 xs x.cells.toList idx r0.w sub r0.n hlt hxs (by omega);show CL _ c (cut _ (idx*r0.w) r0.w);rw[e];exact hnew.1.mono λa _ y hh=>hmono a y hh
       ·rw[ab hii]at hi;have hin:i<r0.n:=(List.getElem?_eq_some_iff.1 hi).1;have e:=Zdn xs x.cells.toList idx i r0.w sub r0.n hlt (λe=>hii e.symm) hxs (by omega);show CL _ c' (cut _ (i*r0.w) r0.w);rw[e];exact(q4.2.2 i c' hi).mono λa _ y hh=>hmono a y hh⟩
      (.inl rfl) (.inl ⟨rfl,by simp[Row.n]⟩)
     exact Qss h3 (hnext .dead _ _ _ _ undef _ h hturn trivial trivial)
   ·simp at h
 |newRow el ks l=>
  obtain⟨arr,h1,h2,h3,h4⟩:=hp;simp only[A3]at h;split at h
  ·rename_i d hd;split at h
   ·simp at h
   ·rename_i hn;simp only[Ba]at h;have hb:Below w.heap.size w (w.alloc (.cells arr el)):=(Below.refl _ _).alloc (co _) _;have hrow:RowC ρ.im (w.alloc (.cells arr el)) ks l arr.toList:=h3.mono (λ_ h=>h) (λb hb'=>Below.heap_alloc w _ b (hR.ib b hb').1);have hadd:=hR.addRow (d:=C.rowAs d) hn (r:=⟨el,ks,l⟩) (v':= .slice (some ⟨w.heap.size,0,none⟩) l.length l.length) (xs:=arr.toList) (w':=w.alloc (.cells arr el)) hb h1
     ⟨h3.1, .inr ⟨w.heap.size,0,l.length,arr,rfl,heap_alloc_new w _,co _,h2,by rw[<-Array.length_toList,Nat.zero_add];exact Nat.le_of_eq h3.1.symm,by
      show List.take (l.length*ks.length) _=_;rw[<-h3.1,List.drop_zero,List.take_length]⟩⟩ hrow
     (λg hg=>by simp[Value.ownBlock]at hg;omega)
    refine HL h4 (hnext _ _ _ _ _ _ _ h hadd ?_ ?_)
    ·exact TVR.c' ⟨by simp only[BM],by simp only[BM], .inr ⟨_,_,_,rfl⟩⟩
    ·intro c hc;simp at hc;subst hc;exact⟨_,EJ _ _ _ hn,rfl,rfl⟩
  ·simp at h
 |newView el ks l=>
  obtain⟨arr,h1,h2,h3,h4⟩:=hp;simp only[A3]at h;have hb:Below w.heap.size w (w.alloc (.cells arr el)):=(Below.refl _ _).alloc (co _) _;have hrow:RowC ρ.im (w.alloc (.cells arr el)) ks l arr.toList:=h3.mono (λ_ h=>h) (λb hb'=>Below.heap_alloc w _ b (hR.ib b hb').1);have hg:=hR.growIm (im':=λb=>ρ.im b\/b=w.heap.size) hb (λb h=> .inl h) (λb h=>h.imp id λe=>by subst e;exact⟨co _,Of (heap_alloc_new w _)⟩);refine HL h4 (hnext _ _ _ _ _ _ _ h hg ?_ ?_)
  ·refine TVR.c' ?_;have hown:EC (w.alloc (.cells arr el)) el ks.length (.slice (some ⟨w.heap.size,0,none⟩) l.length l.length) l.length arr.toList:=
    ⟨h3.1, .inr ⟨w.heap.size,0,l.length,arr,rfl,heap_alloc_new w _,co _,h2,by rw[<-Array.length_toList,Nat.zero_add];exact Nat.le_of_eq h3.1.symm,by rw[List.drop_zero,<-h3.1,List.take_length]⟩⟩
   exact IT (Qml hown (hrow.mono (λ_ h=> .inl h) (λ_ _=>rfl)) (λg hg=> .inr (by simp[Value.ownBlock]at hg;exact hg.symm)))
  ·intro c hc;simp at hc;subst hc;trivial
 |make el ks bytes n z=>
  obtain⟨t,i,zv,kl,kc,h1,h2,h3,h4,h5,h6,h7,h8,h9,h10⟩:=hp;subst h5;simp only[A3]at h;split at h
  ·rename_i d hd;split at h
   ·simp at h
   ·rename_i hn;cases hc:(decide (0<=n)&&decide (n*(i.bytes:Int)<=140737488355328))<;>rw[hc]at h
    ·simp at h
    ·simp only[ah,Ba]at h;simp only[aj,bz]at hc;have hn0:((n.toNat:Nat):Int)=n:=Int.toNat_of_nonneg hc.1;have hzl:zv.cells.toList.length=ks.length:=by
      rw[<-h9.length,<-h8];exact Qr _ _
     have hb1:n.toNat*i.bytes<=140737488355328:=by
      have h2:=hc.2;rw[<-hn0]at h2;have e1:((n.toNat*i.bytes:Nat):Int)=(n.toNat:Int)*(i.bytes:Int):=Int.natCast_mul _ _;omega
     have hnm:n.toNat<=n.toNat*i.bytes:=Nat.le_mul_of_pos_right _ h7;obtain⟨w',arr,p1,p2,p3⟩:=Zf4 (P:=P) (w:=w) (t:=t) (e:=el) (i:=i) (z:=zv) h1 h2 h3 (kl:=kl) (kc:=kc) (n:=n.toNat) hb1 (by omega);rw[hn0]at p1;rw[p1]at h10;subst p2;have hsz:zv.cells.size=ks.length:=by rw[<-Array.length_toList];exact hzl
     have hal:arr.toList.length=n.toNat*ks.length:=by rw[p3,h4,hsz];simp[hsz]
     have hcut:∀j,j<n.toNat->cut arr.toList (j*ks.length) ks.length=zv.cells.toList:=by
      intro j hj;have hle:j*ks.length+ks.length<=n.toNat*ks.length:=by
       calc j*ks.length+ks.length=(j+1)*ks.length:=by rw[Nat.add_mul,Nat.one_mul]
        _<=n.toNat*ks.length:=be _ hj
      apply List.ext_getElem?;intro q;simp only[cut,List.getElem?_take,List.getElem?_drop];by_cases hq:q<ks.length
      ·rw[aa hq,p3,h4,hsz];rw[List.getElem?_map,List.getElem?_range (by omega)];simp only[Option.map_some];rw[show(j*ks.length+q)%ks.length=q from by rw[Nat.mul_comm,Nat.mul_add_mod];exact Nat.mod_eq_of_lt hq];have:q<zv.cells.size:=by rw[hsz];exact hq
       rw[getElem!_pos zv.cells q this,Array.getElem?_toList,Array.getElem?_eq_getElem this]
      ·rw[ab hq,cv (by rw[hzl];omega)]
     have hb:Below w.heap.size w (w.alloc (.cells arr el)):=(Below.refl _ _).alloc (co _) _;have hrow0:RowC ρ.im w ks (List.replicate n.toNat z) arr.toList:=by
      refine⟨by rw[hal];simp,λc hc=> ?_,λj c hj=> ?_⟩
      ·rw[List.mem_replicate]at hc;rw[hc.2];exact h8
      ·rw[List.getElem?_replicate]at hj;split at hj
       ·rename_i hjl;simp at hj;subst hj;rw[hcut j hjl];exact h9
       ·simp at hj
     have hrow:RowC ρ.im (w.alloc (.cells arr el)) ks (List.replicate n.toNat z) arr.toList:=hrow0.mono (λ_ h=>h) (λb hb'=>Below.heap_alloc w _ b (hR.ib b hb').1);have hlr:(List.replicate n.toNat z).length=n.toNat:=by simp
     have hadd:=hR.addRow (d:=d) hn (r:=⟨el,ks,List.replicate n.toNat z⟩) (v':= .slice (some ⟨w.heap.size,0,none⟩) n.toNat n.toNat) (xs:=arr.toList) (w':=w.alloc (.cells arr el)) hb h6
      ⟨by simp only[Row.n,Row.w,hlr];exact hal, .inr ⟨w.heap.size,0,n.toNat,arr,by simp only[Row.n,hlr],heap_alloc_new w _,by simp only[Row.n,hlr];exact co _,by simp only[maxLen];omega,by rw[<-Array.length_toList,Nat.zero_add];exact Nat.le_of_eq hal.symm,by
       simp only[Row.n,hlr];show List.take (n.toNat*ks.length) _=_;rw[<-hal,List.drop_zero,List.take_length]⟩⟩ hrow
      (λg hg=>by simp[Value.ownBlock]at hg;omega)
     refine HL h10 (hnext _ _ _ _ _ _ _ h hadd ?_ ?_)
     ·exact TVR.c' ⟨by simp only[BM],by simp only[BM], .inr ⟨_,_,_,by rw[hlr]⟩⟩
     ·intro c hc;simp at hc;subst hc;exact⟨_,EJ _ _ _ hn,by simp[Row.n],rfl⟩
  ·simp at h
 |cutR id a=>
  simp only[A3]at h;split at h
  ·rename_i r0 hr0;have hle:Nat.ble a r0.l.length=true:=by
    cases hb:Nat.ble a r0.l.length
    ·rw[hb]at h;simp at h
    ·rfl
   rw[hle]at h;simp only[ah]at h;have hle:a<=r0.n:=az hle;simp only[Ba]at h;obtain⟨q1,q2,_,xs,q3,q4⟩:=hR.ro id r0 hr0;have hlen:(r0.l.drop a).length=r0.n-a:=by simp[Row.n]
   have key : ∃ ad cap, ρ.rv id = .slice ad r0.n cap /\ r0.n <= cap /\ (let v' : Value := .slice (if cap = a then ad else ad.map (·.add (a * ρ.wd id))) (r0.n - a) (cap - a)
     v'.ownBlock=(ρ.rv id).ownBlock/\EC w r0.ty r0.w v' (r0.n-a) (xs.drop (a*r0.w))/\((v'= .slice none 0 0/\r0.n-a=0)\/∃g o c,v'= .slice (some ⟨g,o,none⟩) (r0.n-a) c)):=by
    have hxl:(xs.drop (a*r0.w)).length=(r0.n-a)*r0.w:=by rw[da,q3.1,Nat.sub_mul]
    rcases q3.2 with⟨e1,e2⟩|⟨g,oo,cap,cur,e1,e3,e4,e5,e6,e7⟩
    ·refine⟨none,0,by rw[e1,e2],by omega,?_⟩;have ha:a=0:=by omega
     subst ha;rw[e1,e2];refine⟨rfl,⟨by simpa [e2]using hxl, .inl ⟨rfl,rfl⟩⟩, .inl ⟨rfl,rfl⟩⟩
    ·refine⟨_,cap,e1,e4,?_⟩;rw[e1,q2];by_cases hca:cap=a
     ·have hna:r0.n=a:=by omega
      simp only[hca,if_true];refine⟨rfl,⟨hxl, .inr ⟨g,oo,a-a,cur,rfl,e3,by omega,by omega,by simp;omega,?_⟩⟩, .inr ⟨g,oo,_,rfl⟩⟩;rw[hna,Nat.sub_self,Nat.zero_mul,List.take_zero];symm;apply List.eq_nil_of_length_eq_zero;rw[hxl,hna,Nat.sub_self,Nat.zero_mul]
     ·simp only[hca,if_false,Option.map_some,Addr.add_lit];refine⟨rfl,⟨hxl, .inr ⟨g,oo+a*r0.w,cap-a,cur,rfl,e3,by omega,by omega,?_,?_⟩⟩, .inr ⟨g,oo+a*r0.w,_,rfl⟩⟩
      ·rw[Nat.sub_mul];have:a*r0.w<=cap*r0.w:=be _ (by omega);omega
      ·rw[<-e7,List.drop_take,List.drop_drop,<-Nat.sub_mul]
   obtain⟨ad,cap,k1,k2,k3,k4,k5⟩:=key;have hrun:=hp ad r0.n cap k1 k2 hle;have hRk:=hR.kill id;have hrow:RowC ρ.im w r0.ks (r0.l.drop a) (xs.drop (a*r0.w)):=by
    refine⟨by rw[da,q3.1,da,<-Nat.sub_mul],λc hc=>q4.2.1 c (de hc),λi c hi=> ?_⟩;rw[List.getElem?_drop]at hi;have:=q4.2.2 (a+i) c hi;have e:cut (xs.drop (a*r0.w)) (i*r0.ks.length) r0.ks.length=cut xs ((a+i)*r0.ks.length) r0.ks.length:=by
     simp only[cut,List.drop_drop,Nat.add_mul]
    rw[e];exact this
   have hturn:=hRk.turnRow (id:=id) hr0 (r':=⟨r0.ty,r0.ks,r0.l.drop a⟩) (v':=_) (xs:=xs.drop (a*r0.w)) (w':=w) ⟨rfl,rfl,rfl,co _,λ_ _ _=>rfl⟩ rfl (by simp only[Row.n,hlen];exact k4) hrow (.inl k3)
    (.inr ⟨λv hv=>by
     simp only[ba]at hv;obtain⟨u,_,rfl⟩:=hv;exact TV.kill_free id u,λk b hk a' ha'=>by
     rw[F6]at hk;cases hl:Ac aB k with
     |none=>rw[hl]at hk;simp at hk
     |some b'=>
      rw[hl]at hk;simp at hk;subst hk;simp only[Box.kill,ba]at ha';obtain⟨u,_,rfl⟩:=ha';exact AC.kill_free id u⟩)
   refine HL hrun (hnext _ _ _ _ _ _ _ h hturn ?_ ?_)
   ·refine TVR.c' ⟨by simp only[BM],by simpa using q2,?_⟩;rw[hlen];exact k5
   ·intro c hc;simp at hc;subst hc;exact⟨_,EG _ _ _ _ hr0,by simp[Row.n],rfl⟩
  ·simp at h
 |append e ks bytes s x=>
  obtain⟨t,ty,i,z,sv,xv,h1,h2,h3,h4,h5,h6,h7,h8,h9⟩:=hp;subst h5;simp only[A3]at h;split at h
  ·rename_i m hsrc;obtain⟨ad,c,news,rfl,hrow,hnews⟩:=Zhh hR hsrc h8;split at h
   ·
    split at h
    ·rename_i d hd;split at h
     ·simp at h
     ·rename_i hn;cases hb:(Nat.ble 1 ks.length&&Nat.ble 1 i.bytes)<;>rw[hb]at h
      ·simp at h
      ·simp only[ah]at h;simp only[aj]at hb;have hw1:=az hb.1;have hby:=az hb.2;cases hbb:Nat.ble (m.length*i.bytes) 140737488355328<;>rw[hbb]at h
       ·simp at h
       ·simp only[ah,Ba]at h;have hbound:=az hbb;have hm:m.length<=m.length*i.bytes:=Nat.le_mul_of_pos_right _ (by omega);simp only[CC,CP]at h7;subst h7;obtain⟨v',w',q1,q2,q3,q4⟩:=Qvy (P:=P) (ty:=ty) (c:=c) h1 h2 h3 h4 h6 (by omega) (ZU w e ks.length) hrow.1 hnews (hrow.one (by omega)) (by simp only[maxLen];omega) (by simpa using hbound);rw[q1]at h9;simp only[Nat.zero_add,av]at q2;have hbel:Below w.heap.size w w':=⟨q3.os,q3.tape,q3.output,q3.size,λk hk=>q3.block k hk (by simp[Value.ownBlock])⟩;have hadd:=hR.addRow (d:=d) hn (r:=⟨e,ks,m⟩) (v':=v') (xs:=news) (w':=w') hbel (by show 0<ks.length;omega) q2
         (hrow.mono (λ_ h => h) (λb hb' => hbel.block b (hR.ib b hb').1)) (λg' hg' => by
          rcases q4 with q4|q4
          ·rw[q4]at hg';simp[Value.ownBlock]at hg'
          ·rw[q4]at hg';simp at hg';omega)
        refine HL h9 (hnext _ _ _ _ _ _ _ h hadd ?_ ?_)
        ·refine TVR.c' ⟨by simp only[BM],by simp only[BM],?_⟩;rcases q2.2 with⟨e1,e2⟩|⟨g',oo,cap,cur,e1,_⟩
         ·exact .inl ⟨e1,e2⟩
         ·exact .inr ⟨g',oo,cap,e1⟩
        ·intro c hc;simp at hc;subst hc;exact⟨_,EJ _ _ _ hn,rfl,rfl⟩
    ·simp at h
   ·
    rename_i id w1 n1;split at h
    ·rename_i r0 hr0;cases hb:(C6 ks r0.ks&&Nat.beq r0.ty e&&Nat.ble 1 i.bytes)<;>rw[hb]at h
     ·simp at h
     ·simp only[ah]at h;simp only[aj]at hb;have e1:=I7 hb.1.1;have e2:=ac hb.1.2;have hby:=az hb.2;subst e1 e2;cases hbb:Nat.ble ((r0.l++m).length*i.bytes) 140737488355328<;>rw[hbb]at h
      ·simp at h
      ·simp only[ah,Ba]at h;have hbound:=az hbb;rw[ao]at hbound;have hm:r0.l.length+m.length<=(r0.l.length+m.length)*i.bytes:=Nat.le_mul_of_pos_right _ (by omega);obtain⟨q1,q2,_,xs,q3,q4⟩:=hR.ro id r0 hr0;obtain⟨c1,c2,c3⟩:=h7;subst c1;obtain⟨v',w',p1,p2,p3,p4⟩:=Qvy (P:=P) (ty:=ty) (c:=c) h1 h2 h3 h4 h6 q1 q3 hrow.1 hnews (hrow.one q1) (by simp only[maxLen,Row.n];omega) hbound;rw[p1]at h9;have hRk:=hR.kill id;have himb:∀b,ρ.im b->w'.heap[b]? =w.heap[b]? :=λb hb'=>p3.block b (hR.ib b hb').1 (λe=>(hR.ib b hb').2.2 id r0 hr0 e.symm);have happ:=(q4.append hrow).mono (λ_ h=>h) himb;have hturn:=hRk.turnRow (id:=id) hr0 (r':=⟨r0.ty,r0.ks,r0.l++m⟩) (v':=v') (xs:=xs++news) (w':=w') p3 rfl (by simpa [Row.n]using p2) happ
        (Re p4 (λx=>x) (λx g' hg'=>by rw[x]at hg';simp at hg';omega))
        (.inr ⟨λv hv=>by
         simp only[ba]at hv;obtain⟨u,_,rfl⟩:=hv;exact TV.kill_free id u,λk b hk a' ha'=>by
         rw[F6]at hk;cases hl:Ac aB k with
         |none=>rw[hl]at hk;simp at hk
         |some b'=>
          rw[hl]at hk;simp at hk;subst hk;simp only[Box.kill,ba]at ha';obtain⟨u,_,rfl⟩:=ha';exact AC.kill_free id u⟩)
       refine HL h9 (hnext _ _ _ _ _ _ _ h hturn ?_ ?_)
       ·refine TVR.c' ⟨by simp only[BM],by simpa using q2,?_⟩;rcases p2.2 with⟨e1,e2⟩|⟨g',oo,cap,cur,e1,_⟩
        ·exact .inl ⟨e1,by simpa [Row.n]using e2⟩
        ·exact .inr ⟨g',oo,cap,by simpa [Row.n]using e1⟩
       ·intro c hc;simp at hc;subst hc;exact⟨_,EG _ _ _ _ hr0,by simp[Row.n],rfl⟩
    ·simp at h
   ·simp at h
  ·simp at h
 |call f args=>
  obtain⟨xs,h1,h2,h3⟩:=hp;simp only[A3]at h;split at h
  ·rename_i g hg;split at h
   ·rename_i as has;obtain⟨hal,hag⟩:=Qr0 has;have hsp:=hspec.1 f g hg;obtain⟨v,mem',hv,hpc⟩:=hsp.run h;split at hv
    ·cases hb0:((!(args.any TV.hasOwn)||v.flat)&&v.plainB)<;>rw[hb0]at hv
     ·simp at hv
     ·simp only[ah]at hv;simp only[aj]at hb0
      let im2:Nat->Prop:=λb=>ρ.im b\/(args.any TV.hasOwn=true/\∃id r0,Ac aC id=some r0/\(ρ.rv id).ownBlock=some b)
      have himl:∀b,im2 b->b<w.heap.size:=by
       rintro b (hb'|⟨_,id,r0,hr0,hb'⟩)
       ·exact(hR.ib b hb').1
       ·exact(hR.rwlt hr0 hb').2
      have hown:∀(i:Nat) (a0:TV),args[i]? =some a0->args.any TV.hasOwn=false->a0.hasOwn=false:=by
       intro i a0 ha0 hno;cases hh:a0.hasOwn
       ·rfl
       ·exact absurd (List.any_eq_true.2 ⟨a0,bn ha0,hh⟩) (by rw[hno];simp)
      have harg:∀(i:Nat) (a':TV) (x:Value),as[i]? =some a'->xs[i]? =some x->TVR {ρ with im:=im2} w a' x:=by
       intro i a' x ha' hx;obtain⟨_,a0,ha0,hr0⟩:=hag i a' ha';have hcp0:∀(a:AC) (y:Value),CP ρ.im w a y->CP im2 w a y:=λa y hh=>CP.mono (λ_ h=> .inl h) (λ_ _=>rfl) a y hh;cases hany:args.any TV.hasOwn
       ·have hno:=hown i a0 ha0 hany;have hpl:a0=a':=Zva hno hr0;subst hpl;exact Q9c (hag i a0 ha').1 (λa y _ hh=>hcp0 a y hh) (h2 i a0 x ha0 hx)
       ·refine Zzu (aB:=aB) ?_ hr0 (hwf a0 (bn ha0)) (h2 i a0 x ha0 hx);intro b b' y hb' hy hwb;cases b<;>simp only[AC.res]at hb'<;>try (simp at hb';done)
        case own id w1 n1=>
         split at hb'
         ·rename_i r0 hr0';simp at hb';subst hb';obtain⟨q1,q2,_,ys,q3,q4⟩:=hR.ro id r0 hr0';obtain⟨c1,c2,c3⟩:=hy;subst c1;exact Qml q3 (q4.mono (λ_ h=> .inl h) (λ_ _=>rfl)) (λg hg=> .inr ⟨hany,id,r0,hr0',hg⟩)
         ·simp at hb'
        all_goals
         simp at hb';subst hb';exact hcp0 _ _ hy
      have hbase:RelE (E6 (λb=>b<w.heap.size) w {ρ with im:=im2} []) as [] [] {ρ with im:=im2} xs.toArray w:=by
       refine⟨by simp[hal,h1],λi a hi=> ?_,λa ha=> ?_,λk b hk=>by simp[Ac]at hk,λk b hk=>by simp[Ac]at hk,λk k' b b' hk=>by simp[Ac]at hk,λid r hr=>by simp[Ac]at hr,
        λid id' r r' g hr=>by simp[Ac]at hr,λk b id r hk=>by simp[Ac]at hk,λb hb=>⟨himl b hb,λk bo hk=>by simp[Ac]at hk,λid r hr=>by simp[Ac]at hr⟩,Fr.refl _ _,λ_ h=>h,λ_ h=>h,λb h=> .inl h,λk b hk=>by simp[E6,Ac]at hk⟩
       ·have hil:i<xs.length:=by rw[h1,<-hal];exact(List.getElem?_eq_some_iff.1 hi).1
        have e:xs.toArray.getD i undef=xs[i]:=by simp[Array.getD,hil]
        rw[e];exact harg i a _ hi (ai hil)
       ·obtain⟨i,hi⟩:=List.getElem?_of_mem ha;exact Ko (hag i a hi).1
      refine TD h3 ((hpc _ w _ xs hbase).mono ?_);rintro e w' ⟨x,ρ',he,hR2⟩;have hbel:Below w.heap.size w w':=⟨hR2.fr.os,hR2.fr.tape,hR2.fr.output,hR2.fr.size,λk hk=>hR2.fr.block k hk⟩;have htv:TVR ρ' w' v x:=by simpa using hR2.tv 0 v rfl
      by_cases hany:args.any TV.hasOwn=true
      ·have hflat:v.flat=true:=by have:=hb0.1;rw[hany]at this;simpa using this
       have hR':RelE Z tm aB aC ρ tmps w':=hR.growIm (im':=ρ.im) hbel (λ_ h=>h) (λ_ h=> .inl h);exact⟨x,he,hnext v _ _ _ ρ x w' hv hR' (Zis hflat htv) (Ko hb0.2)⟩
      ·have hR' : RelE Z tm aB aC { ρ with im := ρ'.im } tmps w' := hR.growIm hbel (λb hb => hR2.i0 b (.inl hb)) (λb hb => by
        rcases hR2.i1 b hb with hb'|hb'
        ·rcases hb' with hb'|⟨hb',_⟩
         ·exact .inl hb'
         ·exact absurd hb' hany
        ·exact .inr ⟨Nat.not_lt.1 hb',(hR2.ib b hb).1⟩)
       exact⟨x,he,hnext v _ _ _ _ x w' hv hR' (Q9c (ρ:=ρ') (ρ2:={ρ with im:=ρ'.im}) hb0.2 (λ_ _ _ h=>h) htv) (Ko hb0.2)⟩
    ·simp at hv
   ·simp at h
  ·simp at h
 |callM f args=>
  obtain⟨xs,h1,h2,h3⟩:=hp;exact Zfg hspec hR h1 h2 h3 hwf h hnext
 |callD f args=>
  obtain⟨xs,h1,h2,h3⟩:=hp;exact Zzf hspec hR h1 h2 h3 hwf h hnext
 |callF f args=>
  obtain⟨xs,h1,h2,h3⟩:=hp;exact Zc4 hspec hR h1 h2 h3 hwf h hnext
 |appD e ks bytes s x=>simp[Prim.isApp]at hna
theorem Zdt (hspec:Ai P C) (hR:RelE Z tm aB aC ρ tmps w) {o:Oper} {a:Act} {p:Prim} (hp:Jn P ρ w a.eval o p) (hwf:Prim.wf aB aC p) {K:TV->St->Option R} {r:R}
  (h:A3 C o.dst p ⟨tm,aB,aC⟩ K=some r) {next:Act->World->Prop} {Q:Exit->Act->World->Prop}
  (hnext:∀(v:TV) (tm':List TV) (boxes':List (Nat×Box)) (rows':List (Nat×Row)) (ρ':Env) (x:Value) (w':World),K v ⟨tm',boxes',rows'⟩=some r->RelE Z tm' boxes' rows' ρ' tmps w'->TVR ρ' w' v x->TV.wf boxes' rows' v->next (a.put o.dst x) w'):
  o.wp P a w next Q:=by
 cases hna:Prim.isApp (some p)
 ·exact WL hspec hR hp hwf hna h hnext
 ·cases p<;>simp[Prim.isApp]at hna
  rename_i e ks bytes s x;by_cases hnil:s= .nilSl
  ·subst hnil;simp only[A3]at h;split at h
   ·rename_i m hm;split at h
    ·rename_i d hd;have h':A3 C o.dst (.append e ks bytes .nilSl x) ⟨tm,aB,aC⟩ (λv s=>K v ⟨s.tmps.map (TV.kill d),s.aB.map λp=>(p.1,p.2.kill d),s.aC⟩)=some r:=by
      simp only[A3,hm,hd];split at h
      ·simp at h
      ·rename_i hn;simp only[Ba]at h⊢;exact h
     refine WL hspec hR (p:= .append e ks bytes .nilSl x) hp hwf rfl h' ?_;intro v tm' boxes' rows' ρ' y w' hK hR' hv hvw;refine hnext _ _ _ _ ρ' y w' hK (hR'.kill d) hv ?_;have hlk:∀k,Ac (boxes'.map λp=>(p.1,p.2.kill d)) k=(Ac boxes' k).map (Box.kill d):=λk=>F6 (Box.kill d) boxes' k;exact TV.wf_mono (λa=>AC.wf_mono (λk b hk=>⟨b.kill d,by rw[hlk,hk];rfl⟩) (λk r hk=>⟨r,hk,rfl,rfl⟩)) hvw
    ·simp at h
   ·simp at h
  ·have h':A3 C o.dst (.append e ks bytes s x) ⟨tm,aB,aC⟩ K=some r:=by
    simp only[A3]at h⊢;split at h
    ·split at h
     ·exact h
     ·exact absurd rfl hnil
     ·simp at h
    ·simp at h
   exact WL hspec hR (p:= .append e ks bytes s x) hp hwf rfl h' hnext
end
open Go.RowKit
section
variable {P:Program} {C:Cfg} {R:Type}
theorem Qhp (op:BinOp) (k:IntKind) (a b:Int) (K:AC->Option R):GP op k a b K=(GP op k a b some).bind K:=by
 cases op<;>simp only[GP,af]
 all_goals first|(cases decide (b=0)<;>rfl)|(cases decide (b<0)<;>rfl)
theorem Pk {i:Int}:∀(n k:Nat) {R S:Type} (f:Nat->Option R) (K:R->Option S),GC i n k (λj=>(f j).bind K)=(GC i n k f).bind K
 |0,k,_,_,f,K=>rfl
 |n+1,k,_,_,f,K=>by
  simp only[GC];rw[Pk n (k+1) f K];cases decide (i=(k:Int))<;>rfl
theorem Qnj (g:Int->Int->Int) (k:IntKind):∀(l:List TV) (a:Int) (K:Prim->Option R),Gm g k a l K=(Gm g k a l some).bind K
 |[],a,K=>by simp[Gm]
 |t::l,a,K=>by
  unfold Gm;split
  ·rename_i k' b;cases kEq k k'
   ·rfl
   ·exact Qnj g k l (g a b) K
  ·rfl
theorem Zib (b:Builtin) (ats:List TypeId) (args:List TV) (K:Prim->Option R):LA P b ats args K=(LA P b ats args some).bind K:=by
 unfold LA;split
 case h_6=>exact Qnj _ _ _ _ _
 case h_7=>exact Qnj _ _ _ _ _
 case h_8=>
  split
  ·split
   ·split
    ·split
     ·cases(Nat.beq _ _&&Nat.beq _ _&&Nat.beq _ _)<;>rfl
     ·rfl
    ·rfl
   ·rfl
  ·rfl
 all_goals
  repeat' split
  all_goals rfl
theorem IN (c:Bool) (p:Prim) (K:Prim->Option R):cond c (K p) none=(cond c (some p) none).bind K:=by cases c<;>rfl
theorem PA (ev:Operand->TV) (dst:Option Tmp) (o:Op) (K:Prim->Option R):opK P C ev dst o K=(opK P C ev dst o some).bind K:=by
 cases o
 case pick c a b=>
  simp only[opK];split
  ·rename_i g _;cases g<;>rfl
  ·rfl
 case build t parts=>
  simp only[opK];split
  ·cases(Ak _ _)
   ·rfl
   ·simp only[ah];split<;>rfl
  ·split
   ·split<;>rfl
   ·rfl
  ·rfl
 case buildSlice t n parts=>
  simp only[opK];split
  ·split
   ·cases(Nat.beq _ _&&Nat.beq _ _&&Nat.ble 1 _&&Nat.ble _ 65536)
    ·rfl
    ·simp only[ah];split
     ·split
      ·cases SO C dst _<;>rfl
      ·cases(Ak AC.isClo _&&Nat.beq _ 1)<;>rfl
     ·rfl
   ·rfl
  ·rfl
 case makeSlice t len cap=>
  simp only[opK];split
  ·split
   ·split
    ·cases(Nat.beq _ _&&Nat.ble 1 _&&Nat.ble 1 _)
     ·rfl
     ·simp only[ah];exact IN _ _ _
    ·rfl
   ·rfl
  ·rfl
 case makeFunc fn a b=>
  simp only[opK];split
  ·split<;>rfl
  ·rfl
 case store t a x=>
  simp only[opK];split
  ·cases(Nat.beq _ _)
   ·rfl
   ·simp only[ah];split<;>rfl
  ·rfl
 case binOp op t x y yt=>
  simp only[opK];split
  ·cases(kEq _ _||O6 op)
   ·rfl
   ·simp only[ah];rename_i k a k' b _ _;have h2:=Qhp op k a b (λv=>(some (Prim.val (TV.c v)):Option Prim));rw[Qhp,h2];cases GP op k a b some<;>rfl
  ·split<;>rfl
  ·split<;>rfl
  ·cases(P.eqGuardType P.depth t)
   ·simp only[an];split<;>rfl
   ·rfl
  ·rfl
 case indexAddr t x ix=>
  simp only[opK];split
  ·split
   ·exact Pk _ _ (λj=>some _) K
   ·exact Pk _ _ (λj=>some _) K
   ·exact Pk _ _ (λj=>some _) K
   ·rfl
  ·split
   ·cases(Nat.beq _ _)
    ·rfl
    ·simp only[ah];exact IN _ _ _
   ·cases(Nat.beq _ _)
    ·rfl
    ·simp only[ah];exact IN _ _ _
   ·cases(Nat.beq _ _)
    ·rfl
    ·simp only[ah];exact Pk _ _ (λj=>some _) K
   ·rfl
  ·rfl
 case index t x ix=>
  simp only[opK];split
  ·split
   ·rename_i m _;rw[<-Pk];congr 1
    funext j
    split<;>rfl
   ·rfl
  ·rfl
 case slice t x lo hi mx=>
  simp only[opK];split
  ·split
   ·cases(Nat.beq _ _)
    ·rfl
    ·simp only[ah];split
     ·rfl
     ·exact IN _ _ _
     ·exact IN _ _ _
     ·exact IN _ _ _
   ·split
    ·cases(Nat.beq _ _)
     ·rfl
     ·simp only[ah];exact IN _ _ _
    ·rfl
   ·split
    ·rfl
    ·exact IN _ _ _
    ·exact IN _ _ _
    ·exact IN _ _ _
   ·rfl
  ·rfl
 case call c=>
  simp only[opK];split
  ·exact Zib _ _ _ _
  ·cases C.pure _<;>rfl
  ·split
   ·cases(Ak _ _&&Ak _ _)<;>rfl
   ·rfl
  ·rfl
 all_goals
  simp only[opK]
  repeat' split
  all_goals rfl
end
open Go.RowKit
section
variable {P:Program} {C:Cfg} {R:Type} {aB:List (Nat×Box)} {aC:List (Nat×Row)}
theorem Mv {α:Type} {c:Bool} {p q:α} (h:cond c (some p) none=some q):c=true/\p=q:=by cases c<;>simp at h;exact⟨rfl,h⟩
theorem R8 (k:IntKind) (n:Int):TV.wf aB aC (.c (.int k n)):=by intro a ha;simp at ha;subst ha;trivial
theorem Jp (b:Bool):TV.wf aB aC (.c (.bool b)):=by intro a ha;simp at ha;subst ha;trivial
theorem CH {a:AC} (h:AC.wf aB aC a):TV.wf aB aC (.c a):=by intro b hb;simp at hb;subst hb;exact h
theorem E7 {a:AC} (h:TV.wf aB aC (.c a)):AC.wf aB aC a:=h a (by simp)
theorem Qwv (v:Value):AC.wf aB aC (Np v):=by
 unfold Np;split<;>trivial
theorem Qbh:∀(l:List Value) (cs:List AC),JE l=some cs->∀a∈cs,AC.wf aB aC a
 |[],cs,h=>by simp[JE]at h;subst h;intro a ha;simp at ha
 |v::l,cs,h=>by
  simp only[JE]at h;cases hv:v.oneCell'<;>rw[hv]at h
  ·simp at h
  ·simp only[ah]at h;split at h
   ·rename_i cs' hc;simp at h;subst h;intro a ha;simp only[aq]at ha;rcases ha with rfl|ha
    ·exact Qwv v
    ·exact Qbh l cs' hc a ha
   ·simp at h
theorem Zfx (v:Value):TV.wf aB aC (ofValue v):=by
 unfold ofValue;split
 ·split
  ·rename_i h;exact Qbh _ _ h
  ·trivial
 ·trivial
 ·exact CH (Qwv v)
theorem Qkx {tm:List TV} (h:∀v∈tm,TV.wf aB aC v) (x:Operand):TV.wf aB aC (AY tm x):=by
 cases x with
 |tmp t=>
  simp only[AY,B3,List.getD];cases ht:tm[t]? with
  |none=>trivial
  |some v=>exact h v (bn ht)
 |const v=>exact Zfx v
 |global=>trivial
 |func=>trivial
theorem So {t:TypeId} {cs:List AC} (h:JB P t=some cs):∀a∈cs,AC.wf aB aC a:=by
 unfold JB at h;split at h
 ·split at h
  ·exact Qbh _ _ h
  ·simp at h
 ·simp at h
theorem Q5j {z:List AC} (hz:∀a∈z,AC.wf aB aC a):∀n,∀a∈LO z n,AC.wf aB aC a
 |0,a,h=>by simp[LO]at h
 |n+1,a,h=>by
  simp only[LO,bj]at h;rcases h with h|h
  ·exact hz a h
  ·exact Q5j hz n a h
theorem TV.cells_wf {v:TV} {cs:List AC} (h:v.cells=some cs) (hw:TV.wf aB aC v):∀a∈cs,AC.wf aB aC a:=by
 cases v<;>simp[TV.cells]at h
 subst h;exact hw
theorem SK {α:Type} {x:α}:∀(l:List α) (o:Nat) (vs:List α),x∈splice l o vs->x∈l\/x∈vs
 |l,o,[],h=>by rw[QI]at h;exact .inl h
 |[],o,_::_,h=>by simp[splice]at h
 |y::l,0,v::vs,h=>by
  simp only[splice,aq]at h;rcases h with rfl|h
  ·exact .inr (by simp)
  ·rcases SK l 0 vs h with h|h
   ·exact .inl (by simp[h])
   ·exact .inr (by simp[h])
 |y::l,o+1,v::vs,h=>by
  simp only[splice,aq]at h;rcases h with rfl|h
  ·exact .inl (by simp)
  ·rcases SK l o (v::vs) h with h|h
   ·exact .inl (by simp[h])
   ·exact .inr h
theorem Tf {place:Nat->Option (Nat×Nat)}:∀(parts:List (Nat×TV)) (z cs:List AC),ID place z parts=some cs->(∀a∈z,AC.wf aB aC a)->(∀p∈parts,TV.wf aB aC p.2)->∀a∈cs,AC.wf aB aC a
 |[],z,cs,h,hz,_=>by simp[ID]at h;subst h;exact hz
 |(i,v)::parts,z,cs,h,hz,hp=>by
  simp only[ID]at h;split at h
  ·rename_i off size l hpl hl;cases hb:(Nat.beq l.length size&&Nat.ble (off+size) z.length)<;>rw[hb]at h
   ·simp at h
   ·refine Tf parts _ _ h (λa ha=> ?_) (λp hpm=>hp p (by simp[hpm]));rcases SK _ _ _ ha with ha|ha
    ·exact hz a ha
    ·exact TV.cells_wf hl (hp (i,v) (by simp)) a ha
  ·simp at h
theorem R0 {ev:Operand->TV} (hev:∀x,TV.wf aB aC (ev x)):∀(l:List (Nat×Operand)),∀p∈Gn ev l,TV.wf aB aC p.2
 |[],p,h=>by simp[Gn]at h
 |x::l,p,h=>by
  simp only[Gn,aq]at h;rcases h with rfl|h
  ·exact hev _
  ·exact R0 hev l p h
theorem NL {ev:Operand->TV} (hev:∀x,TV.wf aB aC (ev x)):∀(l:List Operand),∀v∈CQ ev l,TV.wf aB aC v
 |[],p,h=>by simp[CQ]at h
 |x::l,p,h=>by
  simp only[CQ,aq]at h;rcases h with rfl|h
  ·exact hev _
  ·exact NL hev l p h
theorem P3 {g:Bool} {sz off:Nat} {cells:List AC} {v:TV} (h:DE g sz cells off=some v) (hc:∀a∈cells,AC.wf aB aC a):TV.wf aB aC v:=by
 unfold DE at h;cases g
 ·simp only[an]at h;split at h
  ·rename_i c hc';simp at h;subst h;exact CH (hc _ (bn hc'))
  ·simp at h
 ·simp only[ah]at h;cases hbb:Nat.ble (off+sz) cells.length<;>rw[hbb]at h
  ·simp at h
  ·simp at h;subst h;intro c hcm;exact hc c (de (dk hcm))
theorem Qu8 {t:TypeId} {cs:List AC} {off:Nat} {v:TV} (h:NZ P t cs off=some v) (hc:∀a∈cs,AC.wf aB aC a):TV.wf aB aC v:=by
 unfold NZ at h;split at h
 ·exact P3 h hc
 ·simp at h
theorem Zux {op:BinOp} {k:IntKind} {a b:Int} {c:AC} (h:GP op k a b some=some c):AC.wf aB aC c:=by
 cases op<;>simp only[GP]at h
 case quo=>cases hb:decide (b=0)<;>rw[hb]at h<;>simp at h;subst h;trivial
 case rem=>cases hb:decide (b=0)<;>rw[hb]at h<;>simp at h;subst h;trivial
 case shl=>cases hb:decide (b<0)<;>rw[hb]at h<;>simp at h;subst h;trivial
 case shr=>cases hb:decide (b<0)<;>rw[hb]at h<;>simp at h;subst h;trivial
 all_goals (simp at h;subst h;trivial)
theorem ZG (g:Int->Int->Int) (k:IntKind):∀(l:List TV) (a:Int) (p:Prim),Gm g k a l some=some p->Prim.wf aB aC p
 |[],a,p,h=>by simp[Gm]at h;subst h;exact R8 _ _
 |t::l,a,p,h=>by
  unfold Gm at h;split at h
  ·rename_i k' b;cases hk:kEq k k'<;>rw[hk]at h
   ·simp at h
   ·exact ZG g k l _ p h
  ·simp at h
theorem Zt8 (k:Kd) (a:AC):(LU k a).calm=true:=by
 cases k<;>try rfl
 cases a<;>rfl
theorem Qu9:∀(ks:List Kd) (cs:List AC) (j:Nat),Ak AC.calm (EL ks cs j)=true
 |[],_,_=>rfl
 |k::ks,cs,j=>by simp only[EL,Ak,Zt8,ah];exact Qu9 ks cs (j+1)
theorem Q1s {cs:List AC} (h:Ak AC.calm cs=true):∀a∈cs,AC.wf aB aC a:=by
 intro a ha;have:=Ax.1 h a ha;cases a<;>first|trivial|(simp[AC.calm]at this)
theorem Ys:∀{l:List TV} {as:List AC},JK l=some as->(∀v∈l,TV.wf aB aC v)->∀a∈as,AC.wfP aB a
 |[],as,h,_=>by simp[JK]at h;subst h;intro a ha;simp at ha
 |v::l,as,h,hw=>by
  unfold JK at h;split at h
  ·simp at*
  ·rename_i a l' heq;simp only[List.cons.injEq]at heq;obtain⟨rfl,rfl⟩:=heq;cases hc:a.clOk<;>rw[hc]at h
   ·simp at h
   ·simp only[ah]at h;split at h
    ·rename_i r hr;simp at h;subst h;intro b hb;simp only[aq]at hb;rcases hb with rfl|hb
     ·have:=hw (.c b) (by simp) b (by simp);cases b<;>first|exact this|trivial
     ·exact Ys hr (λv hv=>hw v (by simp[hv])) b hb
    ·simp at h
  ·simp at h
theorem Qau {ev:Operand->TV} (hev:∀x,TV.wf aB aC (ev x)) {dst:Option Tmp} {o:Op} {p:Prim} (h:opK P C ev dst o some=some p):Prim.wf aB aC p:=by
 cases o<;>simp only[opK]at h<;>try (simp at h;done)
 case move x=>simp at h;subst h;exact hev x
 case assign x=>simp at h;subst h;exact hev x
 case pick c a b=>
  split at h
  ·rename_i g _;cases g<;>simp at h<;>subst h
   ·exact hev b
   ·exact hev a
  ·simp at h
 case alloc t=>
  split at h
  ·rename_i cs hz;simp at h;subst h;exact So hz
  ·simp at h
 case box t x=>
  split at h
  ·rename_i cs hc;simp at h;subst h;exact TV.cells_wf hc (hev x)
  ·simp at h
 case build t parts=>
  split at h
  ·rename_i z fs hz hu;cases hall:(Ak (Mb P) fs.toList)<;>rw[hall]at h
   ·simp at h
   ·simp only[ah]at h;split at h
    ·rename_i cs hb;simp at h;subst h;exact Tf _ _ _ hb (So hz) (R0 hev _)
    ·simp at h
  ·rename_i z n el hz hu;split at h
   ·split at h
    ·rename_i cs hb;simp at h;subst h;exact Tf _ _ _ hb (So hz) (R0 hev _)
    ·simp at h
   ·simp at h
  ·simp at h
 case buildSlice t n parts=>
  split at h
  ·split at h
   ·cases hb:(Nat.beq _ _&&Nat.beq _ _&&Nat.ble 1 _&&Nat.ble _ 65536)<;>rw[hb]at h
    ·simp at h
    ·simp only[ah]at h;split at h
     ·rename_i hz _ _ cs hbp;split at h
      ·cases hcv:SO C dst n<;>rw[hcv]at h<;>simp at h<;>subst h<;>trivial
      ·cases hcl:(Ak AC.isClo cs&&Nat.beq _ 1)<;>rw[hcl]at h
       ·simp at h
       ·simp only[ah]at h;simp at h;subst h;refine Tf _ _ _ hbp (λa ha=> ?_) (R0 hev _);exact Q5j (So hz) _ a ha
     ·simp at h
   ·simp at h
  ·simp at h
 case makeSlice t len cap=>
  split at h
  ·split at h
   ·split at h
    ·cases hb:(Nat.beq _ _&&Nat.ble 1 _&&Nat.ble 1 _)<;>rw[hb]at h
     ·simp at h
     ·simp only[ah]at h;obtain⟨_,rfl⟩:=Mv h;trivial
    ·simp at h
   ·simp at h
  ·simp at h
 case makeFunc fn a b=>
  split at h
  ·split at h
   ·rename_i fs cs hfs hcs;simp at h;subst h;exact CH ⟨Ys hfs (NL hev _),Ys hcs (NL hev _)⟩
   ·simp at h
  ·simp at h
 case load t a=>
  split at h
  ·have ha:=hev a;split at h
   ·rename_i key off hea;simp at h;subst h;rw[hea]at ha;exact E7 ha
   ·rename_i cells sub hea;split at h
    ·rename_i v hv;simp at h;subst h;rw[hea]at ha;exact P3 hv (Q1s (E7 ha))
    ·simp at h
   ·rename_i id idx sub hea;simp at h;subst h;rw[hea]at ha;exact E7 ha
   ·simp at h
  ·simp at h
 case store t a x=>
  split at h
  ·rename_i sz cs hs hc;cases hb:(Nat.beq cs.length sz)<;>rw[hb]at h
   ·simp at h
   ·simp only[ah]at h;have ha:=hev a;split at h
    ·rename_i key off hea;simp at h;subst h;rw[hea]at ha;exact⟨E7 ha,TV.cells_wf hc (hev x)⟩
    ·rename_i id idx sub hea;simp at h;subst h;rw[hea]at ha;exact E7 ha
    ·simp at h
  ·simp at h
 case nilCheck x=>
  have hx:=hev x;split at h
  all_goals first|(simp at h;done)|(rename_i hea;simp at h;subst h;rw[hea]at hx;exact hx)
 case binOp op t x y yt=>
  split at h
  ·cases hk:(kEq _ _||O6 op)<;>rw[hk]at h
   ·simp at h
   ·simp only[ah]at h;rename_i k a k' b _ _;rw[Qhp]at h;cases hi:GP op k a b some with
    |none=>rw[hi]at h;simp at h
    |some c=>rw[hi]at h;simp at h;subst h;exact CH (Zux hi)
  ·split at h
   ·simp at h;subst h;exact Jp _
   ·simp at h;subst h;exact Jp _
   ·simp at h
  ·split at h
   ·simp at h;subst h;exact Jp _
   ·simp at h;subst h;exact Jp _
   ·simp at h
  ·cases hg:P.eqGuardType P.depth t<;>rw[hg]at h
   ·simp only[an]at h;split at h
    ·simp at h;subst h;exact Jp _
    ·simp at h;subst h;exact Jp _
    ·simp at h
   ·simp at h
  ·simp at h
 case unOp uop t x=>
  split at h
  ·simp at h;subst h;exact R8 _ _
  ·simp at h;subst h;exact Jp _
  ·simp at h
 case convert src dst x=>
  split at h
  ·simp at h;subst h;exact R8 _ _
  ·simp at h
 case fieldAddr t x i=>
  split at h
  ·split at h
   ·have hx:=hev x;split at h
    ·rename_i hea;simp at h;subst h;rw[hea]at hx;have q:=E7 hx;exact CH q
    ·rename_i hea;simp at h;subst h;rw[hea]at hx;have q:=E7 hx;exact CH q
    ·rename_i hea;simp at h;subst h;rw[hea]at hx;have q:=E7 hx;exact CH q
    ·simp at h
   ·simp at h
  ·simp at h
 case field t x i=>
  split at h
  ·rename_i f cs hf hea;split at h
   ·rename_i v hp;simp at h;subst h;have hx:=hev x;rw[hea]at hx;exact Qu8 hp hx
   ·simp at h
  ·simp at h
 case indexAddr t x ix=>
  split at h
  ·have hx:=hev x;split at h
   ·rename_i hea;obtain⟨j,h1,_⟩:=HO h;simp at h1;subst h1;rw[hea]at hx;have q:=E7 hx;exact CH q
   ·rename_i hea;obtain⟨j,h1,_⟩:=HO h;simp at h1;subst h1;rw[hea]at hx;have q:=E7 hx;exact CH q
   ·rename_i hea;obtain⟨j,h1,_⟩:=HO h;simp at h1;subst h1;rw[hea]at hx;have q:=E7 hx;exact CH q
   ·simp at h
  ·have hx:=hev x;split at h
   ·rename_i m ks l hm hea;cases hb:Nat.beq m ks.length<;>rw[hb]at h
    ·simp at h
    ·simp only[ah]at h;obtain⟨_,rfl⟩:=Mv h;exact CH (Qu9 _ _ _)
   ·rename_i m id wd n hm hea;cases hb:Nat.beq m wd<;>rw[hb]at h
    ·simp at h
    ·simp only[ah]at h;obtain⟨hd,rfl⟩:=Mv h;rw[hea]at hx;obtain⟨r,h1,h2,h3⟩:=E7 hx;simp at hd;exact CH ⟨r,h1,by omega⟩
   ·rename_i m key n hm hea;cases hb:Nat.beq m 1<;>rw[hb]at h
    ·simp at h
    ·simp only[ah]at h;obtain⟨j,h1,_⟩:=HO h;simp at h1;subst h1;rw[hea]at hx;have q:=E7 hx;exact CH q
   ·simp at h
  ·simp at h
 case index t x ix=>
  split at h
  ·rename_i i n el cs hi hu hea;split at h
   ·obtain⟨j,h1,_⟩:=HO h;have hx:=hev x;rw[hea]at hx;split at h1
    ·rename_i v hp;simp at h1;subst h1;exact Qu8 hp hx
    ·simp at h1
   ·simp at h
  ·simp at h
 case slice t x lo hi mx=>
  split at h
  ·split at h
   ·rename_i m ks l hm hea;cases hb:Nat.beq m ks.length<;>rw[hb]at h
    ·simp at h
    ·simp only[ah]at h;split at h
     ·simp at h;subst h;exact CH trivial
     all_goals
      obtain⟨_,rfl⟩:=Mv h;exact CH trivial
   ·split at h
    ·cases hb:Nat.beq _ _<;>rw[hb]at h
     ·simp at h
     ·simp only[ah]at h;obtain⟨_,rfl⟩:=Mv h;trivial
    ·simp at h
   ·split at h
    ·simp at h;subst h;exact CH trivial
    all_goals
     obtain⟨_,rfl⟩:=Mv h;exact CH trivial
   ·simp at h
  ·simp at h
 case extract t i=>
  have ht:=hev t;split at h
  ·rename_i ps hea;split at h
   ·rename_i g cs hg;simp at h;subst h;rw[hea]at ht;exact ht (g,cs) (bn hg)
   ·simp at h
  ·simp at h
 case call c=>
  split at h
  ·rename_i b hb;have hargs:=NL hev c.args.toList
   revert hargs h
   generalize CQ ev c.args.toList=args;intro h hargs;unfold LA at h;split at h
   case h_6=>exact ZG _ _ _ _ _ h
   case h_7=>exact ZG _ _ _ _ _ h
   case h_8=>
    rename_i s x
    repeat' split at h
    all_goals try (simp at h;done)
    obtain⟨_,rfl⟩:=Mv h;exact⟨E7 (hargs _ (by simp)),E7 (hargs _ (by simp))⟩
   all_goals
    repeat' split at h
    all_goals first|(simp at h;done)|(simp at h;subst h;exact R8 _ _)
  ·rename_i f hf;cases hp:C.pure f<;>rw[hp]at h<;>simp at h<;>subst h<;>exact NL hev _
  ·rename_i t ht;split at h
   ·rename_i f fs cs hcl;cases hok:(Ak AC.clOk fs&&Ak AC.clOk cs)<;>rw[hok]at h
    ·simp at h
    simp only[ah,ap]at h;subst h;simp only[aj]at hok;have hv:=hev (.tmp t);rw[hcl]at hv;have hq:=E7 hv;have hcw:∀l:List AC,(∀a∈l,AC.wfP aB a)->Ak AC.clOk l=true->∀v∈l.map TV.c,TV.wf aB aC v:=by
     intro l h1 h2 v hv;simp only[ba]at hv;obtain⟨a,ha,rfl⟩:=hv;have q1:=h1 a ha;have q2:=Ax.1 h2 a ha;cases a<;>first|exact CH q1|(simp[AC.clOk]at q2;done)|exact CH trivial
    intro v hv;rcases bj.1 hv with hv|hv
    ·exact hcw fs hq.1 hok.1 v hv
    ·rcases bj.1 hv with hv|hv
     ·exact NL hev _ v hv
     ·exact hcw cs hq.2 hok.2 v hv
   ·simp at h
  ·simp at h
end
open Go.RowKit
def Rel (Z:Base) (s:St) (tmps:Array Value) (w:World):Prop:=∃ρ,RelE Z s.tmps s.aB s.aC ρ tmps w
section
variable {P:Program} {C:Cfg} {w:World} {R:Type} {Z:Base}
theorem RelE.put {ρ:Env} {tm:List TV} {aB:List (Nat×Box)} {aC:List (Nat×Row)} {tmps:Array Value} (h:RelE Z tm aB aC ρ tmps w) (d:Nat) {v:TV} {x:Value} (hv:TVR ρ w v x) (hw:TV.wf aB aC v):
  RelE Z (setL tm d v) aB aC ρ (tmps.setIfInBounds d x) w:=by
 rw[H9];refine⟨by simp[h.tl],λi u hi=> ?_,λu hu=> ?_,h.wb,h.bx,h.bi,h.ro,h.ri,h.br,h.ib,h.fr,h.fs,h.i0,h.i1,h.k0⟩
 ·rw[List.getElem?_set]at hi;by_cases hid:d=i
  ·subst hid;simp only[if_true]at hi;split at hi
   ·rename_i hlt;simp at hi;subst hi;have:d<tmps.size:=by rw[<-h.tl];exact hlt
    simpa [Array.getD,this]using hv
   ·simp at hi
  ·rw[ab hid]at hi;have:=h.tv i u hi;have e:(tmps.setIfInBounds d x).getD i undef=tmps.getD i undef:=by
    simp[Array.getD_eq_getD_getElem?,Array.getElem?_setIfInBounds_ne hid]
   rw[e];exact this
 ·rcases List.mem_or_eq_of_mem_set hu with hu|rfl
  ·exact h.wt u hu
  ·exact hw
theorem RelE.learn {ρ:Env} {tm:List TV} {aB:List (Nat×Box)} {aC:List (Nat×Row)} {tmps:Array Value} (h:RelE Z tm aB aC ρ tmps w) (d:Nat) {v:TV} (hv:TVR ρ w v (tmps.getD d undef)) (hw:TV.wf aB aC v):
  RelE Z (setL tm d v) aB aC ρ tmps w:=by
 rw[H9];refine⟨by simp[h.tl],λi u hi=> ?_,λu hu=> ?_,h.wb,h.bx,h.bi,h.ro,h.ri,h.br,h.ib,h.fr,h.fs,h.i0,h.i1,h.k0⟩
 ·rw[List.getElem?_set]at hi;by_cases hid:d=i
  ·subst hid;simp only[if_true]at hi;split at hi
   ·simp at hi;subst hi;exact hv
   ·simp at hi
  ·rw[ab hid]at hi;exact h.tv i u hi
 ·rcases List.mem_or_eq_of_mem_set hu with hu|rfl
  ·exact h.wt u hu
  ·exact hw
theorem Fg (s:St) (d:Option Tmp) (v:TV) (K:St->Option R):put s d v K=K (match d with|none=>s|some t=>⟨setL s.tmps t v,s.aB,s.aC⟩):=by
 obtain⟨tm,aB,aC⟩:=s;cases d with
 |none=>rfl
 |some t=>simp only[put,Ba]
theorem Zaj {ρ:Env} {tm:List TV} {aB:List (Nat×Box)} {aC:List (Nat×Row)} {a:Act} (h:RelE Z tm aB aC ρ a.tmps w) (x:Operand):TVR ρ w (AY tm x) (a.eval x):=by
 cases x with
 |tmp t=>
  simp only[AY,B3,List.getD,Act.eval];cases ht:tm[t]? with
  |none=>trivial
  |some v=>exact h.tv t v ht
 |const v=>exact Z5g v
 |global=>trivial
 |func=>trivial
theorem SX:∀(l:List Nat) (s:St) (tmps:Array Value),Rel Z s tmps w->∀(K:St->Option R) (r:R),Iv l s K=some r->∃s',K s'=some r/\Rel Z s' tmps w
 |[],s,tmps,hR,K,r,h=>⟨s,h,hR⟩
 |id::l,s,tmps,hR,K,r,h=>by
  obtain⟨tm,aB,aC⟩:=s;simp only[Iv]at h;split at h
  ·rename_i r0 hr0;simp only[Ba]at h;obtain⟨ρ,hR⟩:=hR;exact SX l _ tmps ⟨_,hR.freeze hr0⟩ K r h
  ·exact SX l _ tmps hR K r h
theorem Zgx {k o:Nat} {e:TypeId} {s:St} {tmps:Array Value} (hR:Rel Z s tmps w) {K:St->Option R} {r:R} (h:Lj P k o e s K=some r):∃s',K s'=some r/\Rel Z s' tmps w:=by
 obtain⟨tm,aB,aC⟩:=s;obtain⟨ρ,hR⟩:=hR;simp only[Lj]at h;split at h
 ·rename_i b hk;split at h
  ·rename_i ho;split at h
   ·rename_i ks hks;cases hc:(Nat.ble 1 ks.length&&H1 aC (1000000+1000*k+o))<;>rw[hc]at h
    ·simp at h
    ·simp only[ah,Ba]at h;simp only[aj]at hc;exact⟨_,h,_,hR.promB hk ho (Qi1 hc.2) (az hc.1)⟩
   ·simp at h
  ·exact⟨_,h,ρ,hR⟩
 ·exact⟨_,h,ρ,hR⟩
theorem Q8z:∀(l:List (Nat×Nat×TypeId)) (s:St) (tmps:Array Value),Rel Z s tmps w->∀(K:St->Option R) (r:R),JH P l s K=some r->∃s',K s'=some r/\Rel Z s' tmps w
 |[],s,tmps,hR,K,r,h=>⟨s,h,hR⟩
 |(k,o,e)::l,s,tmps,hR,K,r,h=>by
  simp only[JH]at h;obtain⟨s',h',hR'⟩:=Zgx hR h;exact Q8z l s' tmps hR' K r h'
theorem T_:∀(l:List (Nat×TypeId)) (s:St) (tmps:Array Value),Rel Z s tmps w->∀(K:St->Option R) (r:R),IX P l s K=some r->∃s',K s'=some r/\Rel Z s' tmps w
 |[],s,tmps,hR,K,r,h=>⟨s,h,hR⟩
 |(t,e)::l,s,tmps,hR,K,r,h=>by
  obtain⟨tm,aB,aC⟩:=s;simp only[IX]at h;split at h
  ·rename_i hn;split at h
   ·rename_i ks hrow hks;cases hw:Nat.ble 1 ks.length<;>rw[hw]at h
    ·simp at h
    ·simp only[ah,Ba]at h;refine T_ l _ tmps ?_ K r h;obtain⟨ρ,hR⟩:=hR;have hadd:=hR.addRow (d:=t) hrow (r:=⟨e,ks,[]⟩) (v':= .slice none 0 0) (xs:=[]) (w':=w) (Below.refl _ _) (az hw) (ZU w e ks.length) ⟨by simp,by simp,λi c hi=>by simp at hi⟩ (λg hg=>by simp[Value.ownBlock]at hg);refine⟨_,hadd.learn t ?_ (CH ⟨_,EJ _ _ _ hrow,rfl,rfl⟩)⟩;have hv:tmps.getD t undef= .slice none 0 0:=by
      have htl:t<tm.length:=by
       rcases Nat.lt_or_ge t tm.length with hlt|hge
       ·exact hlt
       ·rw[B3,List.getD,cv hge]at hn;simp at hn
      have hslot:tm[t]? =some (.c .nilSl):=by
       rw[B3,List.getD]at hn;rw[ai htl]at hn⊢;simpa using hn
      have:=(hR.tv t _ hslot).c;simpa [CC,CP]using this
     rw[hv];exact TVR.c' ⟨by simp only[BM],by simp only[BM], .inl ⟨rfl,rfl⟩⟩
   ·simp at h
  ·exact T_ l _ tmps hR K r h
theorem PI {s:St} {tmps:Array Value} (hR:Rel Z s tmps w) {K:St->Option R} {r:R} (h:HP P C s K=some r):∃s',K s'=some r/\Rel Z s' tmps w:=by
 unfold HP at h;obtain⟨s',h',ρ,hR'⟩:=Q8z _ s tmps hR _ r h;obtain⟨tm,aB,aC⟩:=s';simp only[Ba]at h';refine T_ _ _ tmps ?_ K r h';refine⟨ρ,?_⟩;refine hR'.reBox (g:=λ_ b=>SD P b) (λ_ b=> ?_) λk b hk=> ?_
 ·unfold SD;split<;>rfl
 ·unfold SD;split
  ·rename_i ks _;exact⟨λxs h=>KX ks b.cells xs h,Ot ks b.cells (hR'.wb k b hk)⟩
  ·exact⟨λxs h=>h,hR'.wb k b hk⟩
theorem Zr7 {o:Op} {s:St} {tmps:Array Value} (hR:Rel Z s tmps w) {K:St->Option R} {r:R} (h:Ig P C o s K=some r):∃s',K s'=some r/\Rel Z s' tmps w:=by
 unfold Ig at h;obtain⟨s1,h1,hR1⟩:=SX _ s tmps hR _ r h;cases hc:Qjq C o<;>rw[hc]at h1
 ·exact⟨s1,h1,hR1⟩
 ·exact PI hR1 h1
theorem Zpn {pre:Bool} {ρ:Env} {e:Operand->Value} {o:Oper} {p:Prim} (h:Jn P ρ w e o p):Jn P ρ w e o (p.dr pre):=by
 cases pre<;>cases p<;>first|exact h|(simp only[Prim.dr];cases Ak TV.plainB _<;>exact h)
theorem Qfe {pre:Bool} {bx:List (Nat×Box)} {aC:List (Nat×Row)} {p:Prim} (h:Prim.wf bx aC p):Prim.wf bx aC (p.dr pre):=by
 cases pre<;>cases p<;>first|exact h|(simp only[Prim.dr];cases Ak TV.plainB _<;>exact h)
theorem Q4i (hspec:Ai P C) (hok:∀t∈C.eqOk,P.stoodInHeld t=false) {s:St} {o:Oper} {a:Act} (hR:Rel Z s a.tmps w) {K:Option Prim->St->Option R} {r:R}
  {pre:Bool} (h:(opK P C (AY s.tmps) o.dst o.op λp=>A3 C o.dst (p.dr pre) s λv s'=>put s' o.dst v (K (some (p.dr pre))))=some r) {next:Act->World->Prop} {Q:Exit->Act->World->Prop}
  (hnext:∀(po:Option Prim) (s':St) (a':Act) (w':World),K po s'=some r->Rel Z s' a'.tmps w'->a'.defers=a.defers->next a' w'):o.wp P a w next Q:=by
 obtain⟨ρ,hR⟩:=hR;obtain⟨tm,aB,aC⟩:=s;have hev:=λx=>Zaj hR x;rw[PA]at h;cases hp:opK P C (AY tm) o.dst o.op some with
 |none=>rw[hp]at h;simp at h
 |some p=>
  rw[hp]at h;simp only[af]at h;obtain⟨p',hp',hrun⟩:=Zl3 hok hev (λf=>rfl) o hp;simp at hp';subst hp';have hwf:=Qau (aB:=aB) (aC:=aC) (λx=>Qkx hR.wt x) hp;refine Zdt hspec hR (Zpn hrun) (Qfe hwf) h ?_;intro v tm' boxes' rows' ρ' x w' hK hR' hv hvw;rw[Fg]at hK;refine hnext (some (p'.dr pre)) _ _ w' hK ?_ ?_
  ·cases hd:o.dst with
   |none=>exact⟨ρ',hR'⟩
   |some d=>exact⟨ρ',hR'.put d hv hvw⟩
  ·cases o.dst<;>rfl
theorem Wx (hspec:Ai P C) (hok:∀t∈C.eqOk,P.stoodInHeld t=false) {pre:Bool} {s:St} {o:Oper} {a:Act} (hR:Rel Z s a.tmps w) {K:Option Prim->St->Option R} {r:R}
  (h:((bif pre then Ig P C o.op s else λK=>K s) λs=>opK P C (AY s.tmps) o.dst o.op λp=>A3 C o.dst (p.dr pre) s λv s'=>put s' o.dst v (K (some (p.dr pre))))=some r) {next:Act->World->Prop} {Q:Exit->Act->World->Prop}
  (hnext:∀(po:Option Prim) (s':St) (a':Act) (w':World),K po s'=some r->Rel Z s' a'.tmps w'->a'.defers=a.defers->next a' w'):o.wp P a w next Q:=by
 cases pre
 ·exact Q4i hspec hok hR h hnext
 ·obtain⟨s',h',hR'⟩:=Zr7 hR h;exact Q4i hspec hok hR' h' hnext
theorem Q8c (hspec:Ai P C) (hok:∀t∈C.eqOk,P.stoodInHeld t=false) {pre:Bool} {ops:Array Oper} {s:St} {o:Oper} {a:Act} (hR:Rel Z s a.tmps w) {K:Option Prim->St->Option R} {r:R}
  (h:FE P C pre ops.toList o s K=some r) {next:Act->World->Prop} {Q:Exit->Act->World->Prop}
  (hnext:∀(po:Option Prim) (s':St) (a':Act) (w':World),K po s'=some r->Rel Z s' a'.tmps w'->a'.defers=a.defers->next a' w'):
  if Region.wanted o (yielded ops a.tmps)=true then o.wp P a w next Q else next (a.put o.dst undef) w:=by
 have hskip:∀s':St,Rel Z s' a.tmps w->put s' o.dst (.tup []) (K none)=some r->next (a.put o.dst undef) w:=by
  intro s' hR' hp;rw[Fg]at hp;refine hnext none _ _ w hp ?_ (by cases o.dst<;>rfl);obtain⟨ρ,hR'⟩:=hR';cases hd:o.dst with
  |none=>exact⟨ρ,hR'⟩
  |some d=>exact⟨ρ,hR'.put d ⟨#[],rfl,trivial⟩ (λp hp=>by simp at hp)⟩
 unfold FE Ps at h;cases hg:o.guard with
 |none=>
  rw[hg]at h;rw[aa (by simp[Region.wanted,hg])];exact Wx hspec hok hR h hnext
 |some jw=>
  obtain⟨j,want⟩:=jw;rw[hg]at h;simp only at h;split at h
  ·rename_i oj hj;split at h
   ·rename_i t ht;split at h
    ·rename_i g hgv;obtain⟨ρ,hRE⟩:=hR;have htl:t<s.tmps.length:=by
      rcases Nat.lt_or_ge t s.tmps.length with hlt|hge
      ·exact hlt
      ·rw[B3,List.getD,cv hge]at hgv;simp at hgv
     have hslot:s.tmps[t]? =some (.c (.bool g)):=by
      rw[B3,List.getD]at hgv;rw[ai htl]at hgv⊢;simpa using hgv
     have hval:=(hRE.tv t _ hslot).bool;have hts:t<a.tmps.size:=by rw[<-hRE.tl];exact htl
     have hat:a.tmps[t]? =some (.bool g):=by
      rw[Array.getElem?_eq_getElem hts];rw[Array.getD,dif_pos hts]at hval;simpa using hval
     have hy:yielded ops a.tmps j=some g:=by
      unfold yielded;have hj':ops[j]? =some oj:=by simpa using hj
      simp[hj',ht,hat]
     have hl:∀b,g=b->Rel Z ⟨setL s.tmps t (.c (.bool b)),s.aB,s.aC⟩ a.tmps w:=by
      rintro b rfl;exact⟨ρ,hRE.learn t (by rw[hval];exact TVR.mkBool _) (Jp _)⟩
     have hw:Region.wanted o (yielded ops a.tmps)=(g==want):=by
      simp only[Region.wanted,hg,hy];cases g<;>cases want<;>rfl
     cases g
     ·simp only[an]at h;rw[Fg]at h;dsimp only at h;have hR':=hl false rfl;cases want
      ·rw[aa (by rw[hw];rfl)];simp only[an]at h;exact Wx hspec hok hR' h hnext
      ·rw[ab (by rw[hw];simp)];simp only[ah]at h;exact hskip _ hR' h
     ·simp only[ah]at h;rw[Fg]at h;dsimp only at h;have hR':=hl true rfl;cases want
      ·rw[ab (by rw[hw];simp)];simp only[an]at h;exact hskip _ hR' h
      ·rw[aa (by rw[hw];rfl)];simp only[ah]at h;exact Wx hspec hok hR' h hnext
    ·rename_i hgv;obtain⟨ρ,hRE⟩:=hR;have htl:t<s.tmps.length:=by
      rcases Nat.lt_or_ge t s.tmps.length with hlt|hge
      ·exact hlt
      ·rw[B3,List.getD,cv hge]at hgv;simp at hgv
     have hslot:s.tmps[t]? =some (.tup []):=by
      rw[B3,List.getD]at hgv;rw[ai htl]at hgv⊢;simpa using hgv
     obtain⟨ys,hys,hval⟩:=hRE.tv t _ hslot;have hts:t<a.tmps.size:=by rw[<-hRE.tl];exact htl
     have hat:a.tmps[t]? =some (.tuple ys):=by
      rw[Array.getElem?_eq_getElem hts];rw[Array.getD,dif_pos hts]at hys;simpa using hys
     have hy:yielded ops a.tmps j=none:=by
      unfold yielded;have hj':ops[j]? =some oj:=by simpa using hj
      simp[hj',ht,hat]
     have hw:Region.wanted o (yielded ops a.tmps)=false:=by
      simp only[Region.wanted,hg,hy];rfl
     rw[ab (by rw[hw];simp)];exact hskip _ ⟨ρ,hRE⟩ h
    ·simp at h
   ·simp at h
  ·simp at h
theorem Q9t (hspec:Ai P C) (hok:∀t∈C.eqOk,P.stoodInHeld t=false) {ops:Array Oper} {Q:Exit->Act->World->Prop} {K:St->Option R} {r:R}:
  ∀(l:List Oper) (s:St) (a:Act) (w:World),Rel Z s a.tmps w->Ug P C ops.toList l s K=some r->
  (∀(s':St) (a':Act) (w':World),K s'=some r->Rel Z s' a'.tmps w'->a'.defers=a.defers->Q .normal a' w')->wpList P ops Q l a w
 |[],s,a,w,hR,h,hq=>hq s a w h hR rfl
 |o::l,s,a,w,hR,h,hq=>by
  simp only[Ug]at h;have:=Q8c (next:=wpList P ops Q l) (Q:=Q) hspec hok hR h (λpo s' a' w' hK hR' hd=>Q9t hspec hok l s' a' w' hR' hK (λs2 a2 w2 h1 h2 h3=>hq s2 a2 w2 h1 h2 (h3.trans hd)));simp only[wpList];split
  ·rename_i hw;rw[aa hw]at this;exact .inl this
  ·rename_i hw;rw[ab hw]at this;exact this
end
open Go.RowKit
def SZ (s:St) (d:Option Tmp) (v:TV):St:=
 match d with
 |none=>s
 |some t=>⟨setL s.tmps t v,s.aB,s.aC⟩
section
variable {P:Program} {C:Cfg} {w:World} {R:Type} {Z:Base}
theorem Lx (s:St) (d:Option Tmp) (v:TV) (K:St->Option R):put s d v K=K (SZ s d v):=Fg s d v K
def Av (dst:Option Tmp) (p:Prim) (aB:List (Nat×Box)) (aC:List (Nat×Row)):Option (TV×List (Nat×Box)):=
 match p with
 | .val v=>some (v,aB)
 | .load g sz key off=>match Ac aB key with
  |some b=>match DE g sz b.cells off with
   |some v=>some (v,aB)
   |none=>none
  |none=>none
 | .store key off cs=>match Ac aB key with
  |some b=>if Nat.ble (off+cs.length) b.cells.length then some (.dead,upd aB key ⟨b.ty,splice b.cells off cs⟩)else none
  |none=>none
 | .new ty cs=>match dst with
  |some d=>match Ac aB d with
   |some _=>none
   |none=>some (.c (.ptr d 0),ins aB d ⟨ty,cs⟩)
  |none=>none
 | .newView _ ks l=>some (.c (.view ks l),aB)
 | .rload g sz id idx sub=>match Ac aC id with
  |some r=>match DE g sz (r.f idx) sub with
   |some v=>some (v,aB)
   |none=>none
  |none=>none
 | .call f args=>match C.spec f with
  |some g=>match GM aC args with
   |some l=>match g (TV×Mem) l ⟨[],[]⟩ (λv m=>some (v,m))with
    |some (v,⟨[],[]⟩)=>if((!(args.any TV.hasOwn)||v.flat)&&v.plainB)=true then some (v,aB)else none
    |_=>none
   |none=>none
  |none=>none
 | .callD f args=>match C.spec f with
  |some g=>
   if(Ak (TV.inK (AX (cat AC.keys (cat TV.cellsOf args)) []) []) args&&Ak (λk=>Ak AC.calm (EE aB k)) (AX (cat AC.keys (cat TV.cellsOf args)) [])&&BL (AX (cat AC.keys (cat TV.cellsOf args)) []))=true then
    match Du aB (λk=>base+pos (AX (cat AC.keys (cat TV.cellsOf args)) []) k) (λi=>base+pos [] i) base (AX (cat AC.keys (cat TV.cellsOf args)) [])with
    |some mb=>match g (TV×Mem) (args.map (TV.ren (λk=>base+pos (AX (cat AC.keys (cat TV.cellsOf args)) []) k) (λi=>base+pos [] i))) ⟨mb,[]⟩ (λv m=>some (v,m))with
     |some (v,⟨mb',[]⟩)=>
      if(Ak (λp:Nat×Box=>Ej mb' p.1) mb&&Ak (λp:Nat×Box=>Ej mb p.1) mb'&&BL (mb'.map (·.1))&&Ak (λp:Nat×Box=>Ak AC.calm p.2.cells) mb'&&v.plainB)=true then
       some (v,Cw (AX (cat AC.keys (cat TV.cellsOf args)) []) mb' aB)
      else none
     |_=>none
    |none=>none
   else none
  |none=>none
 |_=>none
theorem Zqi (hspec:Ai P C) {dst:Option Tmp} {p:Prim} (hs:Prim.simple (some p)=true) (hna:Prim.isApp (some p)=false) (hnm:Prim.isMk (some p)=false) (s:St) (K:TV->St->Option R):
  A3 C dst p s K=(Av (C:=C) dst p s.aB s.aC).bind λq=>K q.1 ⟨s.tmps,q.2,s.aC⟩:=by
 obtain⟨tm,aB,aC⟩:=s;cases p<;>simp only[Prim.simple]at hs<;>try (simp at hs;done)
 case appD=>simp[Prim.isApp]at hna
 case callF=>simp[Prim.isMk]at hnm
 case newRow=>simp[Prim.isMk]at hnm
 case val v=>rfl
 case newView e ks l=>rfl
 case rload g sz id idx sub=>
  simp only[A3,Av];cases h1:Ac aC id with
  |none=>rfl
  |some r=>
   dsimp only;cases h2:DE g sz (r.f idx) sub<;>rfl
 case load g sz key off=>
  simp only[A3,Av];cases h1:Ac aB key with
  |none=>rfl
  |some b=>
   dsimp only;cases h2:DE g sz b.cells off<;>rfl
 case store key off cs=>
  simp only[A3,Av];cases h1:Ac aB key with
  |none=>rfl
  |some b=>
   dsimp only;cases Nat.ble (off+cs.length) b.cells.length
   ·rfl
   ·simp only[ah,Ba,if_true,af]
 case new ty cs=>
  simp only[A3,Av];cases dst with
  |none=>rfl
  |some d=>
   dsimp only;cases h1:Ac aB d with
   |some _=>rfl
   |none=>simp only[Ba,af]
 case call f args=>
  simp only[A3,Av];cases h1:C.spec f with
  |none=>rfl
  |some g=>
   dsimp only;cases h2:GM aC args with
   |none=>rfl
   |some l=>
    dsimp only;have hsp:=hspec.1 f g h1;rw[hsp.nat];cases h3:g (TV×Mem) l ⟨[],[]⟩ (λv m=>some (v,m))with
    |none=>rfl
    |some q=>
     obtain⟨v,⟨mb,mr⟩⟩:=q;simp only[af];cases mb with
     |cons _ _=>rfl
     |nil=>
      cases mr with
      |cons _ _=>rfl
      |nil=>
       dsimp only;cases((!(args.any TV.hasOwn)||v.flat)&&v.plainB)<;>rfl
 case callD f args=>
  simp only[A3,Av];cases h1:C.spec f with
  |none=>rfl
  |some g=>
   dsimp only;simp only[Ba];generalize AX (cat AC.keys (cat TV.cellsOf args)) []=keys;cases hc:(Ak (TV.inK keys []) args&&Ak (λk=>Ak AC.calm (EE aB k)) keys&&BL keys)
   ·simp
   ·simp only[ah,if_true];cases h2:Du aB (λk=>base+pos keys k) (λi=>base+pos [] i) base keys with
    |none=>rfl
    |some mb=>
     dsimp only;have hsp:=hspec.1 f g h1;rw[hsp.nat];cases h3:g (TV×Mem) (args.map (TV.ren (λk=>base+pos keys k) (λi=>base+pos [] i))) ⟨mb,[]⟩ (λv m=>some (v,m))with
     |none=>rfl
     |some q=>
      obtain⟨v,⟨mb',mr⟩⟩:=q;simp only[af];cases mr with
      |cons _ _=>rfl
      |nil=>
       dsimp only;cases(Ak (λp:Nat×Box=>Ej mb' p.1) mb&&Ak (λp:Nat×Box=>Ej mb p.1) mb'&&BL (mb'.map (·.1))&&Ak (λp:Nat×Box=>Ak AC.calm p.2.cells) mb'&&v.plainB)<;>rfl
theorem BY {α:Type} {c:Bool} {p:Option α} {q:α} (h:cond c p none=some q):c=true/\p=some q:=by cases c<;>simp at h;exact⟨rfl,h⟩
def ZH (aC:List (Nat×Row)) (e:TypeId) (ks:List Kd) (bytes id:Nat) (x:AC):Option (TV×List (Nat×Row)):=
 match GR aC ks x with
 |some m=>match Ac aC id with
  |some r=>if(C6 ks r.ks&&Nat.beq r.ty e&&Nat.ble 1 bytes)=true then
    if Nat.ble ((r.l++m).length*bytes) 140737488355328=true then some (.c (.own id r.ks.length (r.l++m).length),upd aC id ⟨e,r.ks,r.l++m⟩)else none
   else none
  |none=>none
 |none=>none
def Qjw (id:Nat) (tm:List TV) (bx:List (Nat×Box)) (aC:List (Nat×Row)):St:=⟨tm.map (TV.kill id),bx.map λp=>(p.1,p.2.kill id),aC⟩
def Vt (aC:List (Nat×Row)) (e:TypeId) (ks:List Kd) (bytes d:Nat) (x:AC):Option (TV×List (Nat×Row)):=
 match GR aC ks x with
 |some m=>match Ac aC d with
  |some _=>none
  |none=>if(Nat.ble 1 ks.length&&Nat.ble 1 bytes)=true then
    if Nat.ble (m.length*bytes) 140737488355328=true then some (.c (.own d ks.length m.length),ins aC d ⟨e,ks,m⟩)else none
   else none
 |none=>none
def Ke (dst:Option Tmp):Prim->Option Nat
 | .appD _ _ _ (.own id _ _) _=>some id
 | .appD _ _ _ .nilSl _=>dst
 |_=>none
def JO (dst:Option Tmp) (aC:List (Nat×Row)):Prim->Option (TV×List (Nat×Row))
 | .appD e ks bytes (.own id _ _) x=>ZH aC e ks bytes id x
 | .appD e ks bytes .nilSl x=>match dst with
  |some d=>Vt aC e ks bytes d x
  |none=>none
 |_=>none
def mkG (dst:Option Tmp) (p:Prim):Option (TV×Option (Nat×Row)):=
 match p with
 | .newRow e ks l=>match dst with
  |some d=>some (.c (.own (C.rowAs d) ks.length l.length),some (C.rowAs d,⟨e,ks,l⟩))
  |none=>none
 | .callF f args=>match C.spec f with
  |some g=>if Ak TV.plainB args=true then match g (TV×Mem) args ⟨[],[]⟩ (λv m=>some (v,m))with
    |some (v,⟨[],[]⟩)=>if v.plainB=true then some (v,none)else none
    |some (.v false [.own j _ _],⟨[],[(k,r)]⟩)=>if Nat.beq j k=true then some (.c (.own (HD (dst.getD 0)) r.ks.length r.l.length),some (HD (dst.getD 0),r))else none
    |_=>none
   else none
  |none=>none
 |_=>none
def mkD (dst:Option Tmp) (p:Prim) (aC:List (Nat×Row)):Option (TV×List (Nat×Row)):=
 match mkG (C:=C) dst p with
 |some (v,none)=>some (v,aC)
 |some (v,some (k,r))=>match Ac aC k with
  |some _=>none
  |none=>some (v,ins aC k r)
 |none=>none
def EX (dst:Option Tmp) (p:Prim) (s:St):Option (TV×St):=
 bif Prim.isApp (some p)then match Ke dst p with
  |some id=>(JO dst s.aC p).map λq=>(q.1,Qjw id s.tmps s.aB q.2)
  |none=>none
 else bif Prim.isMk (some p)then(mkD (C:=C) dst p s.aC).map λq=>(q.1,⟨s.tmps,s.aB,q.2⟩)
 else(Av (C:=C) dst p s.aB s.aC).map λq=>(q.1,⟨s.tmps,q.2,s.aC⟩)
theorem Q0c (hspec:Ai P C) {dst:Option Tmp} {p:Prim} (hs:Prim.simple (some p)=true) (s:St) (K:TV->St->Option R):
  A3 C dst p s K=(EX (C:=C) dst p s).bind λq=>K q.1 q.2:=by
 cases hp:Prim.isApp (some p)with
 |false=>
  cases hk:Prim.isMk (some p)with
  |false=>
   rw[Zqi hspec hs (by rw[hp]) hk];unfold EX;rw[hp,hk];simp only[an];cases Av (C:=C) dst p s.aB s.aC<;>rfl
  |true=>
   obtain⟨tm,aB,aC⟩:=s;unfold EX;rw[hp,hk];simp only[an,ah];cases p<;>simp[Prim.isMk]at hk
   case newRow e ks l=>
    simp only[A3,mkD,mkG];cases dst with
    |none=>rfl
    |some d=>
     dsimp only;cases Ac aC (C.rowAs d)with
     |some _=>rfl
     |none=>simp only[Ba];rfl
   case callF f args=>
    simp only[A3,mkD,mkG];cases h1:C.spec f with
    |none=>rfl
    |some g=>
     dsimp only;cases h2:Ak TV.plainB args
     ·rfl
     simp only[ah,if_true];have hsp:=hspec.1 f g h1;rw[hsp.nat];cases h3:g (TV×Mem) args ⟨[],[]⟩ (λv m=>some (v,m))with
     |none=>rfl
     |some q=>
      obtain⟨v,⟨mb,mr⟩⟩:=q;simp only[af];cases mb with
      |cons _ _=>cases v<;>rfl
      |nil=>
       cases mr with
       |nil=>
        dsimp only;cases v.plainB<;>rfl
       |cons p l=>
        obtain⟨k,r⟩:=p;cases l with
        |cons _ _=>rfl
        |nil=>
         dsimp only;split
         ·rename_i j w0 n0;cases hjk:Nat.beq j k
          ·simp only[hjk,Bool.false_eq_true,if_false];rfl
          ·simp only[ah,hjk,if_true];cases hl:Ac aC (HD (dst.getD 0))with
           |some _=>simp only[hl];rfl
           |none=>simp only[Ba,hl];rfl
         ·rename_i hno;cases v with
          |dead=>rfl
          |tup ps=>rfl
          |v g cs=>
           cases g with
           |true=>rfl
           |false=>
            cases cs with
            |nil=>rfl
            |cons a l=>
             cases l with
             |cons _ _=>cases a<;>rfl
             |nil=>cases a<;>first|rfl|exact absurd rfl (hno _ _ _)
 |true=>
  obtain⟨tm,aB,aC⟩:=s;cases p<;>simp[Prim.isApp]at hp
  rename_i e ks bytes sv x;unfold EX;simp only[Prim.isApp,ah,A3];cases sv
  case own id w' n=>
   dsimp only[Ke,JO,ZH];cases GR aC ks x with
   |none=>rfl
   |some m=>
    dsimp only;cases Ac aC id with
    |none=>rfl
    |some r=>
     dsimp only;cases(C6 ks r.ks&&Nat.beq r.ty e&&Nat.ble 1 bytes)
     ·rfl
     ·simp only[ah,if_true];cases Nat.ble ((r.l++m).length*bytes) 140737488355328
      ·rfl
      ·simp only[ah,if_true,Ba];rfl
  case nilSl=>
   dsimp only[Ke,JO];cases dst with
   |none=>cases GR aC ks x<;>rfl
   |some d=>
    dsimp only[Vt];cases GR aC ks x with
    |none=>rfl
    |some m=>
     dsimp only;cases Ac aC d with
     |some _=>rfl
     |none=>
      dsimp only;cases(Nat.ble 1 ks.length&&Nat.ble 1 bytes)
      ·rfl
      ·simp only[ah,if_true];cases Nat.ble (m.length*bytes) 140737488355328
       ·rfl
       ·simp only[ah,if_true,Ba];rfl
  all_goals
   dsimp only[Ke];cases GR aC ks x<;>rfl
theorem Z4m (hspec:Ai P C) {dst:Option Tmp} {p:Prim} {s:St} {K:TV->St->Option R} {r:R} (h:A3 C dst p s K=some r):∃v s',K v s'=some r:=by
 obtain⟨tm,aB,aC⟩:=s;cases p<;>simp only[A3]at h
 case val v=>exact⟨_,_,h⟩
 case newView e ks l=>exact⟨_,_,h⟩
 case load g sz key off=>
  repeat' split at h
  all_goals first|(simp at h;done)|exact⟨_,_,h⟩
 case store key off cs=>
  split at h
  ·rename_i b _;cases hb:Nat.ble (off+cs.length) b.cells.length<;>rw[hb]at h
   ·simp at h
   ·simp only[ah,Ba]at h;exact⟨_,_,h⟩
  ·simp at h
 case new ty cs=>
  split at h
  ·split at h
   ·simp at h
   ·simp only[Ba]at h;exact⟨_,_,h⟩
  ·simp at h
 case newS ty n cs=>
  split at h
  ·split at h
   ·simp at h
   ·simp only[Ba]at h;exact⟨_,_,h⟩
  ·simp at h
 case rload g sz id idx sub=>
  repeat' split at h
  all_goals first|(simp at h;done)|exact⟨_,_,h⟩
 case rstore id idx sub cs=>
  split at h
  ·rename_i r0 _;cases hb:(Nat.ble (sub+cs.length) r0.w&&Ak AC.plain cs)<;>rw[hb]at h
   ·simp at h
   ·simp only[ah]at h;split at h
    ·simp only[Ba]at h;exact⟨_,_,h⟩
    ·simp at h
  ·simp at h
 case newRow e ks l=>
  split at h
  ·split at h
   ·simp at h
   ·simp only[Ba]at h;exact⟨_,_,h⟩
  ·simp at h
 case make e ks bytes n z=>
  split at h
  ·split at h
   ·simp at h
   ·obtain⟨_,h⟩:=BY h;simp only[Ba]at h;exact⟨_,_,h⟩
  ·simp at h
 case cutR id a=>
  split at h
  ·obtain⟨_,h⟩:=BY h;simp only[Ba]at h;exact⟨_,_,h⟩
  ·simp at h
 case append e ks bytes s x=>
  split at h
  ·split at h
   ·split at h
    ·split at h
     ·simp at h
     ·obtain⟨_,h⟩:=BY h;obtain⟨_,h⟩:=BY h;simp only[Ba]at h;exact⟨_,_,h⟩
    ·simp at h
   ·split at h
    ·obtain⟨_,h⟩:=BY h;obtain⟨_,h⟩:=BY h;simp only[Ba]at h;exact⟨_,_,h⟩
    ·simp at h
   ·simp at h
  ·simp at h
 case call f args=>
  split at h
  ·rename_i g hg;split at h
   ·obtain⟨v,m,h',_⟩:=(hspec.1 f g hg).run h;split at h'
    ·obtain⟨_,h'⟩:=BY h';exact⟨_,_,h'⟩
    ·simp at h'
   ·simp at h
  ·simp at h
 case callM f args=>
  split at h
  ·rename_i g hg;simp only[Ba]at h;obtain⟨_,h⟩:=BY h;split at h
   ·obtain⟨v,m,h',_⟩:=(hspec.1 f g hg).run h;obtain⟨_,h'⟩:=BY h';exact⟨_,_,h'⟩
   ·simp at h
  ·simp at h
 case callF f args=>
  split at h
  ·rename_i g hg;obtain⟨_,h⟩:=BY h;obtain⟨v,m,h',_⟩:=(hspec.1 f g hg).run h;split at h'
   ·obtain⟨_,h'⟩:=BY h';exact⟨_,_,h'⟩
   ·split at h'
    ·obtain⟨_,h'⟩:=BY h';split at h'
     ·simp at h'
     ·simp only[Ba]at h';exact⟨_,_,h'⟩
    ·simp at h'
   ·simp at h'
  ·simp at h
 case appD e ks bytes s x=>
  split at h
  ·split at h
   ·split at h
    ·obtain⟨_,h⟩:=BY h;obtain⟨_,h⟩:=BY h;simp only[Ba]at h;exact⟨_,_,h⟩
    ·simp at h
   ·split at h
    ·split at h
     ·simp at h
     ·obtain⟨_,h⟩:=BY h;obtain⟨_,h⟩:=BY h;simp only[Ba]at h;exact⟨_,_,h⟩
    ·simp at h
   ·simp at h
  ·simp at h
 case callD f args=>
  split at h
  ·rename_i g hg;simp only[Ba]at h;obtain⟨_,h⟩:=BY h;split at h
   ·obtain⟨v,m,h',_⟩:=(hspec.1 f g hg).run h;split at h'
    ·obtain⟨_,h'⟩:=BY h';exact⟨_,_,h'⟩
    ·simp at h'
   ·simp at h
  ·simp at h
theorem Q7e (hspec:Ai P C) (dst:Option Tmp) (p:Prim) (s:St) (K:TV->St->Option R):A3 C dst p s K=(A3 C dst p s λv s'=>some (v,s')).bind λq=>K q.1 q.2:=by
 obtain⟨tm,aB,aC⟩:=s;cases p<;>simp only[A3,Ba]
 case val v=>rfl
 case newView e ks l=>rfl
 case load g sz key off=>
  cases Ac aB key with
  |none=>rfl
  |some b=>
   dsimp only;cases DE g sz b.cells off<;>rfl
 case store key off cs=>
  cases Ac aB key with
  |none=>rfl
  |some b=>
   dsimp only;cases Nat.ble (off+cs.length) b.cells.length<;>rfl
 case new ty cs=>
  cases dst with
  |none=>rfl
  |some d=>
   dsimp only;cases Ac aB d<;>rfl
 case newS ty n cs=>
  cases dst with
  |none=>rfl
  |some d=>
   dsimp only;cases Ac aB d<;>rfl
 case rload g sz id idx sub=>
  cases Ac aC id with
  |none=>rfl
  |some r=>
   dsimp only;cases DE g sz (r.f idx) sub<;>rfl
 case rstore id idx sub cs=>
  cases Ac aC id with
  |none=>rfl
  |some r=>
   dsimp only;cases(Nat.ble (sub+cs.length) r.w&&Ak AC.plain cs)
   ·rfl
   ·simp only[ah];cases Iz r.ks (splice (r.f idx) sub cs)<;>rfl
 case newRow e ks l=>
  cases dst with
  |none=>rfl
  |some d=>
   dsimp only;cases Ac aC (C.rowAs d)<;>rfl
 case make e ks bytes n z=>
  cases dst with
  |none=>rfl
  |some d=>
   dsimp only;cases Ac aC d with
   |some _=>rfl
   |none=>
    dsimp only;cases(decide (0<=n)&&decide (n*(bytes:Int)<=140737488355328))<;>rfl
 case cutR id a=>
  cases Ac aC id with
  |none=>rfl
  |some r=>
   dsimp only;cases Nat.ble a r.l.length<;>rfl
 case append e ks bytes s x=>
  cases GR aC ks x with
  |none=>rfl
  |some m=>
   dsimp only;cases s
   case nilSl=>
    dsimp only;cases dst with
    |none=>rfl
    |some d=>
     dsimp only;cases Ac aC d with
     |some _=>rfl
     |none=>
      dsimp only;cases(Nat.ble 1 ks.length&&Nat.ble 1 bytes)
      ·rfl
      ·simp only[ah];cases Nat.ble (m.length*bytes) 140737488355328<;>rfl
   case own id w' n=>
    dsimp only;cases Ac aC id with
    |none=>rfl
    |some r=>
     dsimp only;cases(C6 ks r.ks&&Nat.beq r.ty e&&Nat.ble 1 bytes)
     ·rfl
     ·simp only[ah];cases Nat.ble ((r.l++m).length*bytes) 140737488355328<;>rfl
   all_goals rfl
 case appD e ks bytes s x=>
  cases GR aC ks x with
  |none=>rfl
  |some m=>
   dsimp only;cases s
   case nilSl=>
    dsimp only;cases dst with
    |none=>rfl
    |some d=>
     dsimp only;cases Ac aC d with
     |some _=>rfl
     |none=>
      dsimp only;cases(Nat.ble 1 ks.length&&Nat.ble 1 bytes)
      ·rfl
      ·simp only[ah];cases Nat.ble (m.length*bytes) 140737488355328<;>rfl
   case own id w' n=>
    dsimp only;cases Ac aC id with
    |none=>rfl
    |some r=>
     dsimp only;cases(C6 ks r.ks&&Nat.beq r.ty e&&Nat.ble 1 bytes)
     ·rfl
     ·simp only[ah];cases Nat.ble ((r.l++m).length*bytes) 140737488355328<;>rfl
   all_goals rfl
 case call f args=>
  cases hg:C.spec f with
  |none=>rfl
  |some g=>
   dsimp only;cases GM aC args with
   |none=>rfl
   |some l=>
    dsimp only;have hsp:=hspec.1 f g hg;rw[hsp.nat,hsp.nat (TV×St)];cases g (TV×Mem) l ⟨[],[]⟩ (λv m=>some (v,m))with
    |none=>rfl
    |some q=>
     obtain⟨v,⟨mb,mr⟩⟩:=q;simp only[af];cases mb with
     |cons _ _=>rfl
     |nil=>
      cases mr with
      |cons _ _=>rfl
      |nil=>
       dsimp only;cases((!(args.any TV.hasOwn)||v.flat)&&v.plainB)<;>rfl
 case callM f args=>
  cases hg:C.spec f with
  |none=>rfl
  |some g=>
   dsimp only;have hsp:=hspec.1 f g hg;generalize Ln aB 4 (AX (cat AC.keys (cat TV.cellsOf args)) [])=keys;generalize Nk aB (cat TV.cellsOf args) keys=ids;cases(Ak (TV.inK keys ids) args&&Ak (λk=>Ak (AC.inK keys ids) (EE aB k)) keys&&BL keys&&BL ids)
   ·rfl
   ·simp only[ah];cases Du aB (λk=>base+pos keys k) (λi=>base+pos ids i) base keys with
    |none=>cases F4 aC base ids<;>rfl
    |some mb=>
     cases F4 aC base ids with
     |none=>rfl
     |some mr=>
      dsimp only;rw[hsp.nat,hsp.nat (TV×St)];cases g (TV×Mem) (args.map (TV.ren (λk=>base+pos keys k) (λi=>base+pos ids i))) ⟨mb,mr⟩ (λv m=>some (v,m))with
      |none=>rfl
      |some q=>
       obtain⟨v,⟨mb',mr'⟩⟩:=q;simp only[af];cases(Ak (λp:Nat×Box=>Ej mb' p.1) mb&&BL (mb'.map (·.1))&&BL (mr'.map (·.1))&&Ak (λk=>H1 aB (BJ keys (Bk keys mb') (dst.getD 0) k)) (Bk keys mb')&&Ak (λk=>H1 aC (BJ ids (Bk ids mr') (dst.getD 0) k)) (Bk ids mr')&&Nat.ble (Bk keys mb').length 100&&Nat.ble (Bk ids mr').length 100)<;>rfl
 case callF f args=>
  cases hg:C.spec f with
  |none=>rfl
  |some g=>
   dsimp only;have hsp:=hspec.1 f g hg;cases Ak TV.plainB args
   ·rfl
   ·simp only[ah];rw[hsp.nat,hsp.nat (TV×St)];cases g (TV×Mem) args ⟨[],[]⟩ (λv m=>some (v,m))with
    |none=>rfl
    |some q=>
     obtain⟨v,⟨mb,mr⟩⟩:=q;simp only[af];cases mb with
     |cons _ _=>rfl
     |nil=>
      cases mr with
      |nil=>dsimp only;cases v.plainB<;>rfl
      |cons p l=>
       obtain⟨k,r⟩:=p;cases l with
       |cons _ _=>rfl
       |nil=>
        dsimp only;split
        ·rename_i j w0 n0;cases Nat.beq j k
         ·rfl
         ·simp only[ah];cases Ac aC (HD (dst.getD 0))<;>rfl
        ·rfl
 case callD f args=>
  cases hg:C.spec f with
  |none=>rfl
  |some g=>
   dsimp only;have hsp:=hspec.1 f g hg;generalize AX (cat AC.keys (cat TV.cellsOf args)) []=keys;cases(Ak (TV.inK keys []) args&&Ak (λk=>Ak AC.calm (EE aB k)) keys&&BL keys)
   ·rfl
   ·simp only[ah];cases Du aB (λk=>base+pos keys k) (λi=>base+pos [] i) base keys with
    |none=>rfl
    |some mb=>
     dsimp only;rw[hsp.nat,hsp.nat (TV×St)];cases g (TV×Mem) (args.map (TV.ren (λk=>base+pos keys k) (λi=>base+pos [] i))) ⟨mb,[]⟩ (λv m=>some (v,m))with
     |none=>rfl
     |some q=>
      obtain⟨v,⟨mb',mr'⟩⟩:=q;simp only[af];cases mr' with
      |cons _ _=>rfl
      |nil=>
       dsimp only;cases(Ak (λp:Nat×Box=>Ej mb' p.1) mb&&Ak (λp:Nat×Box=>Ej mb p.1) mb'&&BL (mb'.map (·.1))&&Ak (λp:Nat×Box=>Ak AC.calm p.2.cells) mb'&&v.plainB)<;>rfl
theorem Tw:∀(l:List Nat) (s:St) (K:St->Option R),Iv l s K=(Iv l s some).bind K
 |[],s,K=>rfl
 |id::l,⟨tm,aB,aC⟩,K=>by
  simp only[Iv,Ba];cases Ac aC id with
  |none=>exact Tw l _ K
  |some r=>exact Tw l _ K
theorem Q9x (k o:Nat) (e:TypeId) (s:St) (K:St->Option R):Lj P k o e s K=(Lj P k o e s some).bind K:=by
 obtain⟨tm,aB,aC⟩:=s;simp only[Lj,Ba];cases Ac aB k with
 |none=>rfl
 |some b=>
  dsimp only;cases nth .dead b.cells o<;>try rfl
  dsimp only;cases Gf P 8 e with
  |none=>rfl
  |some ks=>
   dsimp only;cases(Nat.ble 1 ks.length&&H1 aC (1000000+1000*k+o))<;>rfl
theorem Yb:∀(l:List (Nat×Nat×TypeId)) (s:St) (K:St->Option R),JH P l s K=(JH P l s some).bind K
 |[],s,K=>rfl
 |(k,o,e)::l,s,K=>by
  simp only[JH];rw[Q9x,Q9x (K:=λs'=>JH P l s' some)];cases Lj P k o e s some with
  |none=>rfl
  |some s'=>exact Yb l s' K
theorem Qps:∀(l:List (Nat×TypeId)) (s:St) (K:St->Option R),IX P l s K=(IX P l s some).bind K
 |[],s,K=>rfl
 |(t,e)::l,⟨tmps,aB,aC⟩,K=>by
  simp only[IX];split
  ·split
   ·rename_i ks _ _;cases Nat.ble 1 ks.length
    ·rfl
    ·simp only[ah,Ba];exact Qps l _ K
   ·rfl
  ·exact Qps l _ K
theorem Zwl (s:St) (K:St->Option R):HP P C s K=(HP P C s some).bind K:=by
 simp only[HP,Ba];rw[Yb]
 conv=>rhs;rw[Yb]
 cases JH P (cat (λp:Nat×Box=>bif AP C.ownBut p.1 then []else(C.ownOff p.2.ty).map λq=>(p.1,q.1,q.2)) s.aB) s some with
 |none=>rfl
 |some s'=>exact Qps _ _ K
theorem Qu6 (o:Op) (s:St) (K:St->Option R):Ig P C o s K=(Ig P C o s some).bind K:=by
 unfold Ig;rw[Tw]
 conv=>rhs;rw[Tw]
 cases Iv (Q86 C (AY s.tmps) o) s some with
 |none=>rfl
 |some s'=>
  simp only[af];cases Qjq C o
  ·rfl
  ·exact Zwl s' K
theorem Zml (hspec:Ai P C) (pre:Bool) (ops:List Oper) (o:Oper) (s:St) (K:Option Prim->St->Option R):FE P C pre ops o s K=(FE P C pre ops o s λp s'=>some (p,s')).bind λq=>K q.1 q.2:=by
 have hrun:∀s:St,((bif pre then Ig P C o.op s else λK=>K s) λs=>opK P C (AY s.tmps) o.dst o.op λp=>A3 C o.dst (p.dr pre) s λv s'=>put s' o.dst v (K (some (p.dr pre))))=
   ((bif pre then Ig P C o.op s else λK=>K s) λs=>opK P C (AY s.tmps) o.dst o.op λp=>A3 C o.dst (p.dr pre) s λv s'=>put s' o.dst v ((λp s'=>some (p,s')) (some (p.dr pre)))).bind λq=>K q.1 q.2:=by
  have h1:∀s:St,(opK P C (AY s.tmps) o.dst o.op λp=>A3 C o.dst (p.dr pre) s λv s'=>put s' o.dst v (K (some (p.dr pre))))=(opK P C (AY s.tmps) o.dst o.op λp=>A3 C o.dst (p.dr pre) s λv s'=>put s' o.dst v ((λp s'=>some (p,s')) (some (p.dr pre)))).bind λq=>K q.1 q.2:=by
   intro s;rw[PA]
   conv=>rhs;rw[PA]
   cases opK P C (AY s.tmps) o.dst o.op some with
   |none=>rfl
   |some p=>
    simp only[af];rw[Q7e hspec]
    conv=>rhs;rw[Q7e hspec]
    cases A3 C o.dst (p.dr pre) s λv s'=>some (v,s')with
    |none=>rfl
    |some q=>simp only[af,Lx]
  intro s;cases pre
  ·exact h1 s
  ·simp only[ah];rw[Qu6]
   conv=>rhs;rw[Qu6]
   cases Ig P C o.op s some with
   |none=>rfl
   |some s'=>exact h1 s'
 have hskip:∀s:St,put s o.dst (.tup []) (K none)=(put s o.dst (.tup []) ((λp s'=>some (p,s')) none)).bind λq=>K q.1 q.2:=by
  intro s;simp only[Lx,af]
 unfold FE Ps;cases o.guard with
 |none=>exact hrun s
 |some jw=>
  obtain⟨j,want⟩:=jw;dsimp only;cases ops[j]? with
  |none=>rfl
  |some oj=>
   dsimp only;cases oj.dst with
   |none=>rfl
   |some t=>
    dsimp only;split
    ·rename_i g _;cases g
     ·simp only[an];rw[Fg]
      conv=>rhs;rw[Fg]
      cases want
      ·exact hrun _
      ·exact hskip _
     ·simp only[ah];rw[Fg]
      conv=>rhs;rw[Fg]
      cases want
      ·exact hskip _
      ·exact hrun _
    ·exact hskip _
    ·rfl
def BV (ops:List Oper) (o:Oper) (tm:List TV):Option Bool:=
 match o.guard with
 |none=>some true
 |some (j,want)=>match ops[j]? with
  |some oj=>match oj.dst with
   |some t=>match nth .dead tm t with
    | .c (.bool g)=>some (g==want)
    | .tup []=>some false
    |_=>none
   |none=>none
  |none=>none
def B_ (ops:List Oper) (o:Oper) (s:St):Option (Option Prim×St):=
 match BV ops o s.tmps with
 |some true=>(opK P C (AY s.tmps) o.dst o.op some).bind λp=>(EX (C:=C) o.dst (p.dr false) s).bind λq=>some (some (p.dr false),SZ q.2 o.dst q.1)
 |some false=>some (none,SZ s o.dst (.tup []))
 |none=>none
theorem Qw1 {tm:List TV} {t:Nat} {v:TV} (h:nth .dead tm t=v) (hv:v≠ .dead):setL tm t v=tm:=by
 rw[B3,List.getD]at h;rw[H9];cases ht:tm[t]? with
 |none=>rw[ht]at h;simp at h;exact absurd h.symm hv
 |some u=>
  rw[ht]at h;simp at h;subst h;apply List.ext_getElem?;intro i;rw[List.getElem?_set];split
  ·rename_i e;subst e;split
   ·exact ht.symm
   ·rename_i hlt;rw[cv (by omega)]
  ·rfl
theorem Zbs (hspec:Ai P C) {ops:List Oper} {o:Oper} {s:St} {K:Option Prim->St->Option R} {r:R} (h:FE P C false ops o s K=some r):
  (∃p s',B_ (P:=P) (C:=C) ops o s=some (p,s')/\K p s'=some r)\/(∃p s',K (some p) s'=some r/\Prim.simple (some p)=false):=by
 have hrun:∀s1:St,BV ops o s.tmps=some true->s1=s->(opK P C (AY s1.tmps) o.dst o.op λp=>A3 C o.dst (p.dr false) s1 λv s'=>put s' o.dst v (K (some (p.dr false))))=some r->
   (∃p s',B_ (P:=P) (C:=C) ops o s=some (p,s')/\K p s'=some r)\/(∃p s',K (some p) s'=some r/\Prim.simple (some p)=false):=by
  rintro s1 hw rfl h;rw[PA]at h;cases hp:opK P C (AY s1.tmps) o.dst o.op some with
  |none=>rw[hp]at h;simp at h
  |some p=>
   rw[hp]at h;simp only[af]at h;cases hs:Prim.simple (some (p.dr false))
   ·right;obtain⟨v,s',hk⟩:=Z4m hspec h;rw[Lx]at hk;exact⟨p.dr false,_,hk,hs⟩
   ·left;rw[Q0c hspec hs]at h;cases hm:EX (C:=C) o.dst (p.dr false) s1 with
    |none=>rw[hm]at h;simp at h
    |some q=>
     rw[hm]at h;simp only[af,Lx]at h;refine⟨some (p.dr false),_,?_,h⟩;simp only[B_,hw,hp,af,hm]
 have hskip:∀s1:St,BV ops o s.tmps=some false->s1=s->put s1 o.dst (.tup []) (K none)=some r->
   (∃p s',B_ (P:=P) (C:=C) ops o s=some (p,s')/\K p s'=some r)\/(∃p s',K (some p) s'=some r/\Prim.simple (some p)=false):=by
  rintro s1 hw rfl h;rw[Lx]at h;exact .inl ⟨none,_,by simp only[B_,hw],h⟩
 unfold FE Ps at h;cases hg:o.guard with
 |none=>
  rw[hg]at h;exact hrun s (by simp[BV,hg]) rfl h
 |some jw=>
  obtain⟨j,want⟩:=jw;rw[hg]at h;simp only at h;split at h
  ·rename_i oj hj;split at h
   ·rename_i t ht;split at h
    ·rename_i g hgv;have hw:BV ops o s.tmps=some (g==want):=by simp only[BV,hg,hj,ht,hgv]
     have hself:∀b,g=b->(⟨setL s.tmps t (.c (.bool b)),s.aB,s.aC⟩:St)=s:=by
      rintro b rfl;rw[Qw1 hgv (by simp)]
     cases g
     ·simp only[an]at h;rw[Fg]at h;dsimp only at h;cases want
      ·exact hrun _ (by rw[hw];rfl) (hself false rfl) h
      ·exact hskip _ (by rw[hw];rfl) (hself false rfl) h
     ·simp only[ah]at h;rw[Fg]at h;dsimp only at h;cases want
      ·exact hskip _ (by rw[hw];rfl) (hself true rfl) h
      ·exact hrun _ (by rw[hw];rfl) (hself true rfl) h
    ·rename_i hgv;exact hskip _ (by simp only[BV,hg,hj,ht,hgv]) rfl h
    ·simp at h
   ·simp at h
  ·simp at h
def IC (P:Program) (C:Cfg) (ops:List Oper) (m:List Nat) (i:Nat) (o:Oper) (s:St):Option (Option Prim×St):=
 if Da ops m i=true then FE P C true ops o s λp s'=>some (p,s')else B_ (P:=P) (C:=C) ops o s
def Qo (P:Program) (C:Cfg) (ops:List Oper) (m:List Nat):List (Nat×Oper×Option Prim)->St->St->Prop
 |[],s,s'=>s=s'
 |(i,o,p)::l,s,s'=>∃s1,IC P C ops m i o s=some (p,s1)/\Qo P C ops m l s1 s'
theorem Qk3 (hspec:Ai P C) {ops:List Oper} {m:List Nat}:∀(l:List Oper) (i:Nat) (s:St) (K:List (Oper×Option Prim)->St->Option R) (r:R),N_ P C ops m l i s K=some r->
  (∃(ps:List (Nat×Oper×Option Prim)) (sf:St),ps.map (·.2.1)=l/\ps.map (·.1)=List.range' i l.length/\Qo P C ops m ps s sf/\K (ps.map (·.2)) sf=some r)\/
  (∃(acc:List (Oper×Option Prim)) (sf:St),K acc sf=some r/\∃(j:Nat) (q:Oper×Option Prim),acc[j]? =some q/\(Da ops m (i+j)||Prim.simple q.2)=false)
 |[],i,s,K,r,h=> .inl ⟨[],s,rfl,rfl,rfl,h⟩
 |o::l,i,s,K,r,h=>by
  simp only[N_]at h;have hstep:(∃p s1,IC P C ops m i o s=some (p,s1)/\N_ P C ops m l (i+1) s1 (λrest sf=>K ((o,p)::rest) sf)=some r)\/
    (∃p s1,N_ P C ops m l (i+1) s1 (λrest sf=>K ((o,some p)::rest) sf)=some r/\(Da ops m i||Prim.simple (some p))=false):=by
   cases hw:Da ops m i
   ·rw[hw]at h;rcases Zbs hspec h with⟨p,s1,h1,h2⟩|⟨p,s1,h1,h2⟩
    ·exact .inl ⟨p,s1,by unfold IC;rw[ab (by rw[hw];simp)];exact h1,h2⟩
    ·exact .inr ⟨p,s1,h1,by simpa using h2⟩
   ·rw[hw,Zml hspec]at h;cases hk:FE P C true ops o s λp s'=>some (p,s')with
    |none=>rw[hk]at h;simp at h
    |some q=>
     rw[hk]at h;exact .inl ⟨q.1,q.2,by unfold IC;rw[aa hw];exact hk,h⟩
  rcases hstep with⟨p,s1,h1,h2⟩|⟨p,s1,h1,h2⟩
  ·rcases Qk3 hspec l (i+1) s1 _ r h2 with⟨ps,sf,q1,q2,q3,q4⟩|⟨acc,sf,q1,j,q,q2,q3⟩
   ·exact .inl ⟨(i,o,p)::ps,sf,by simp[q1],by simp[q2,List.range'_succ],⟨s1,h1,q3⟩,q4⟩
   ·exact .inr ⟨_,sf,q1,j+1,q,by simp[q2],by rw[show i+(j+1)=i+1+j from by omega];exact q3⟩
  ·rcases Qk3 hspec l (i+1) s1 _ r h1 with⟨ps,sf,q1,q2,q3,q4⟩|⟨acc,sf,q1,j,q,q2,q3⟩
   ·exact .inr ⟨_,sf,q4,0,(o,some p),by simp,h2⟩
   ·exact .inr ⟨_,sf,q1,j+1,q,by simp[q2],by rw[show i+(j+1)=i+1+j from by omega];exact q3⟩
end
end Go.Bm
