/- The abstract machine, second form: states and worlds; each primitive step is sound. -/
import Derived.Test.YtommijghjlikkaaGreatBmOpS
import Derived.Maps.AppendAt
set_option linter.unusedVariables false
set_option linter.unusedSimpArgs false
namespace Go.Bm
open Go.RowKit
section defs
variable (boxes:List (Nat×Box)) (rows:List (Nat×Row))
def AC.wfP:AC->Prop
 | .ptr key _=>∃b,Ab boxes key=some b
 |_=>True
def AC.wf:AC->Prop
 | .ptr key _=>∃b,Ab boxes key=some b
 | .bsl key _=>∃b,Ab boxes key=some b
 | .own id w n=>∃r,Ab rows id=some r/\r.n=n/\r.w=w
 | .rptr id idx _=>∃r,Ab rows id=some r/\idx<r.n
 | .vptr cs _=>Aj AC.calm cs=true
 | .clo _ fs cs=>(∀a∈fs,AC.wfP boxes a)/\∀a∈cs,AC.wfP boxes a
 |_=>True
def TV.wf:TV->Prop
 | .v _ cs=>∀a∈cs,AC.wf boxes rows a
 | .tup ps=>∀p∈ps,∀a∈p.2,AC.wf boxes rows a
 | .dead=>True
end defs
structure Fr (F : Nat -> Prop) (w w' : World) : Prop where
 os:w'.os=w.os
 tape:w'.tape=w.tape
 output:w'.output=w.output
 size:w.heap.size<=w'.heap.size
 block:∀k,F k->w'.heap[k]? =w.heap[k]?
theorem Fr.refl (F:Nat->Prop) (w:World):Fr F w w:=⟨rfl,rfl,rfl,Nat.le_refl _,fun _ _=>rfl⟩
theorem Fr.trans {F:Nat->Prop} {a b c:World} (h:Fr F a b) (k:Fr F b c):Fr F a c:=
 ⟨k.os.trans h.os,k.tape.trans h.tape,k.output.trans h.output,Nat.le_trans h.size k.size,fun i hi=>(k.block i hi).trans (h.block i hi)⟩
theorem Fr.mono {F F':Nat->Prop} {w w':World} (h:Fr F w w') (hF:∀k,F' k->F k):Fr F' w w':=⟨h.os,h.tape,h.output,h.size,fun k hk=>h.block k (hF k hk)⟩
theorem Fr.drew {F:Nat->Prop} {a w:World} (h:Fr F a w):Fr F a w.drew:=⟨h.os,h.tape,h.output,h.size,h.block⟩
theorem Fr.alloc {F:Nat->Prop} {a w:World} (h:Fr F a w) (hF:∀k,F k->k<w.heap.size) (o:Obj):Fr F a (w.alloc o):=
 h.trans ⟨rfl,rfl,rfl,by simp,fun k hk=>Below.heap_alloc _ _ _ (hF k hk)⟩
theorem Fr.of_below {w w':World} {F:Nat->Prop} (h:Below w.heap.size w w') (hF:∀k,F k->k<w.heap.size):Fr F w w':=⟨h.os,h.tape,h.output,h.size,fun k hk=>h.block k (hF k hk)⟩
theorem Fr.grown {F:Nat->Prop} {a w w':World} {row:Option Nat} (h:Fr F a w) (hg:w.grownBy w' row) (hF:∀k,F k->k<w.heap.size) (hr:∀k,row=some k-> ¬F k):Fr F a w':=
 h.trans ⟨hg.os,hg.tape,hg.output,hg.size,fun k hk=>hg.block k (hF k hk) (fun e=>hr k e.symm hk)⟩
structure Base where
 F:Nat->Prop
 w0:World
 I0:Nat->Prop
 K0:Nat->Option Nat
structure RelE (Z : Base) (tm : List TV) (boxes : List (Nat × Box)) (rows : List (Nat × Row)) (ρ : Env) (tmps : Array Value) (w : World) : Prop where
 tl:tm.length=tmps.size
 tv:∀(i:Nat) (v:TV),tm[i]? =some v->TVR ρ w v (tmps.getD i undef)
 wt:∀v∈tm,TV.wf boxes rows v
 wb:∀(k:Nat) (b:Box),Ab boxes k=some b->∀a∈b.cells,AC.wf boxes rows a
 bx:∀(k:Nat) (b:Box),Ab boxes k=some b->∃arr:Array Value,w.heap[ρ.bx k]? =some (.cells arr b.ty (0,0))/\CL (CC ρ w) b.cells arr.toList/\ ¬Z.F (ρ.bx k)
 bi:∀(k k':Nat) (b b':Box),Ab boxes k=some b->Ab boxes k'=some b'->ρ.bx k=ρ.bx k'->k=k'
 ro:∀(id:Nat) (r:Row),Ab rows id=some r->0<r.w/\ρ.wd id=r.w/\(∀g,(ρ.rv id).ownBlock=some g-> ¬Z.F g)/\∃xs,Er w r.ty r.w (ρ.rv id) r.n xs/\RowC ρ.im w r.ks r.l xs
 ri:∀(id id':Nat) (r r':Row) (g:Nat),Ab rows id=some r->Ab rows id'=some r'->(ρ.rv id).ownBlock=some g->(ρ.rv id').ownBlock=some g->id=id'
 br:∀(k:Nat) (b:Box) (id:Nat) (r:Row),Ab boxes k=some b->Ab rows id=some r->(ρ.rv id).ownBlock≠some (ρ.bx k)
 ib:∀b,ρ.im b->b<w.heap.size/\(∀(k:Nat) (bo:Box),Ab boxes k=some bo->ρ.bx k≠b)/\(∀(id:Nat) (r:Row),Ab rows id=some r->(ρ.rv id).ownBlock≠some b)
 fr:Fr Z.F Z.w0 w
 fs:∀k,Z.F k->k<w.heap.size
 i0:∀b,Z.I0 b->ρ.im b
 i1:∀b,ρ.im b->Z.I0 b\/ ¬Z.F b
 k0:∀k b,Z.K0 k=some b->ρ.bx k=b/\∃bo,Ab boxes k=some bo
section
variable {P:Program} {C:Cfg} {ρ:Env} {w:World} {R:Type} {Z:Base} {tm:List TV} {boxes:List (Nat×Box)} {rows:List (Nat×Row)} {tmps:Array Value}
theorem M0 {w:World} {b:Nat} {o:Obj} (h:w.heap[b]? =some o):b<w.heap.size:=(Array.getElem?_eq_some_iff.1 h).1
theorem RelE.bxlt (h:RelE Z tm boxes rows ρ tmps w) {k:Nat} {b:Box} (hk:Ab boxes k=some b):ρ.bx k<w.heap.size:=by
 obtain⟨arr,h1,_⟩:=h.bx k b hk;exact M0 h1
theorem RelE.rwlt (h:RelE Z tm boxes rows ρ tmps w) {id:Nat} {r:Row} (hk:Ab rows id=some r) {g:Nat} (hg:(ρ.rv id).ownBlock=some g): ¬Z.F g/\g<w.heap.size:=by
 obtain⟨_,_,h0,xs,h1,_⟩:=h.ro id r hk;exact⟨h0 g hg,Qp8 h1 g hg⟩
theorem TVR.mono {ρ ρ':Env} {w w':World} (hcc:∀(a:AC) (x:Value),CC ρ w a x->CC ρ' w' a x):∀(v:TV) (x:Value),TVR ρ w v x->TVR ρ' w' v x:=by
 intro v x h;have hl:∀{l xs},CL (CC ρ w) l xs->CL (CC ρ' w') l xs:=fun h=>h.mono fun a _ x hx=>hcc a x hx;cases v with
 |dead=>trivial
 |v g cs=>
  cases g
  ·obtain⟨a,h1,h2⟩:=h;exact⟨a,h1,hcc a _ h2⟩
  ·obtain⟨ys,h1,h2⟩:=h;exact⟨ys,h1,hl h2⟩
 |tup ps=>
  obtain⟨ys,h1,h2⟩:=h;refine⟨ys,h1,?_⟩;generalize ys.toList=l at h2;clear h1;induction ps generalizing l with
  |nil=>cases l<;>first|exact h2|exact h2.elim
  |cons p ps ih=>
   cases l with
   |nil=>exact h2.elim
   |cons y l=>
    obtain⟨g,cs⟩:=p;refine⟨?_,ih l h2.2⟩;have:=h2.1;cases g
    ·obtain⟨a,h1,h2⟩:=this;exact⟨a,h1,hcc a _ h2⟩
    ·obtain⟨ys,h1,h2⟩:=this;exact⟨ys,h1,hl h2⟩
theorem TVR.mono' {ρ ρ':Env} {w w':World} {v:TV} (hcc:∀(a:AC) (x:Value),AC.wf boxes rows a->CC ρ w a x->CC ρ' w' a x) (hw:TV.wf boxes rows v) {x:Value} (h:TVR ρ w v x):TVR ρ' w' v x:=by
 have hl:∀{l xs},(∀a∈l,AC.wf boxes rows a)->CL (CC ρ w) l xs->CL (CC ρ' w') l xs:=fun hh h=>h.mono fun a ha x hx=>hcc a x (hh a ha) hx;cases v with
 |dead=>trivial
 |v g cs=>
  cases g
  ·obtain⟨a,h1,h2⟩:=h;subst h1;exact⟨a,rfl,hcc a _ (hw a (by simp)) h2⟩
  ·obtain⟨ys,h1,h2⟩:=h;exact⟨ys,h1,hl hw h2⟩
 |tup ps=>
  obtain⟨ys,h1,h2⟩:=h;refine⟨ys,h1,?_⟩;generalize ys.toList=l at h2;clear h1;induction ps generalizing l with
  |nil=>cases l<;>first|exact h2|exact h2.elim
  |cons p ps ih=>
   cases l with
   |nil=>exact h2.elim
   |cons y l=>
    obtain⟨g,cs⟩:=p;refine⟨?_,ih (fun q hq=>hw q (by simp[hq])) l h2.2⟩;have:=h2.1;cases g
    ·obtain⟨a,q1,q2⟩:=this;subst q1;exact⟨a,rfl,hcc a _ (hw (false,[a]) (by simp) a (by simp)) q2⟩
    ·obtain⟨ys,q1,q2⟩:=this;exact⟨ys,q1,hl (hw (true,cs) (by simp)) q2⟩
theorem RowC.mono {im im':Nat->Prop} {w w':World} {ks:List Kd} {l:List (List AC)} {xs:List Value} (hi:∀b,im b->im' b) (hb:∀b,im b->w'.heap[b]? =w.heap[b]?) (h:RowC im w ks l xs):RowC im' w' ks l xs:=
 ⟨h.1,h.2.1,fun i c hin=>(h.2.2 i c hin).mono fun a _ x hx=>CP.mono hi hb a x hx⟩
theorem AC.agree_refl {ρ ρ':Env} (h1:ρ'.bx=ρ.bx) (h2:ρ'.rv=ρ.rv) (h3:ρ'.wd=ρ.wd) (a:AC):a.agree ρ ρ':=by
 have hp:∀a:AC,a.agreeP ρ ρ':=by intro a;cases a<;>first|(simp only[AC.agreeP,h1];done)|trivial
 cases a with
 |ptr=>simp only[AC.agree,h1]
 |bsl=>simp only[AC.agree,h1]
 |own=>simp only[AC.agree,h2,h3,and_self]
 |rptr=>simp only[AC.agree,h2,h3,and_self]
 |clo=>exact⟨fun a _=>hp a,fun a _=>hp a⟩
 |_=>trivial
theorem CC.keep {g:Nat} {w':World} (hg: ¬ρ.im g) (hb:∀b,b≠g->w'.heap[b]? =w.heap[b]?) (a:AC) (x:Value) (h:CC ρ w a x):CC ρ w' a x:=
 CC.mono (fun _ h=>h) (fun b hbm=>hb b (fun e=>hg (e▸hbm))) a x (AC.agree_refl rfl rfl rfl a) h
def upN {α:Type} (f:Nat->α) (k:Nat) (v:α):Nat->α:=fun j=>if j=k then v else f j
theorem BG {α:Type} (f:Nat->α) (k:Nat) (v:α):upN f k v k=v:=by simp[upN]
theorem BW {α:Type} (f:Nat->α) (k:Nat) (v:α) {j:Nat} (h:j≠k):upN f k v j=f j:=by simp[upN,h]
theorem AC.wfP_mono {boxes':List (Nat×Box)} (hb:∀(k:Nat) (b:Box),Ab boxes k=some b->∃b',Ab boxes' k=some b') {a:AC} (h:AC.wfP boxes a):AC.wfP boxes' a:=by
 cases a with
 |ptr k o=>obtain⟨b,h⟩:=h;exact hb k b h
 |_=>trivial
theorem AC.wf_mono {boxes':List (Nat×Box)} {rows':List (Nat×Row)} (hb:∀(k:Nat) (b:Box),Ab boxes k=some b->∃b',Ab boxes' k=some b')
  (hr:∀(k:Nat) (r:Row),Ab rows k=some r->∃r',Ab rows' k=some r'/\r'.n=r.n/\r'.w=r.w) {a:AC} (h:AC.wf boxes rows a):AC.wf boxes' rows' a:=by
 cases a with
 |ptr k o=>obtain⟨b,h⟩:=h;exact hb k b h
 |bsl k o=>obtain⟨b,h⟩:=h;exact hb k b h
 |own id w' n=>obtain⟨r,h1,h2,h3⟩:=h;obtain⟨r',q1,q2,q3⟩:=hr id r h1;exact⟨r',q1,by rw[q2,h2],by rw[q3,h3]⟩
 |rptr id i s=>obtain⟨r,h1,h2⟩:=h;obtain⟨r',q1,q2,q3⟩:=hr id r h1;exact⟨r',q1,by rw[q2];exact h2⟩
 |vptr=>exact h
 |clo f fs cs=>exact⟨fun a ha=>AC.wfP_mono hb (h.1 a ha),fun a ha=>AC.wfP_mono hb (h.2 a ha)⟩
 |_=>trivial
theorem AC.agree_of {ρ':Env} (hk:∀k,(∃b,Ab boxes k=some b)->ρ'.bx k=ρ.bx k) (hr:∀id,(∃r,Ab rows id=some r)->ρ'.rv id=ρ.rv id/\ρ'.wd id=ρ.wd id) {a:AC} (h:AC.wf boxes rows a):a.agree ρ ρ':=by
 have hp:∀l:List AC,(∀a∈l,AC.wfP boxes a)->∀a∈l,a.agreeP ρ ρ':=by
  intro l hl a ha;have:=hl a ha;cases a<;>first|exact hk _ this|trivial
 cases a with
 |ptr k o=>exact hk k h
 |bsl k o=>exact hk k h
 |own id w n=>obtain⟨r,h1,_⟩:=h;exact hr id ⟨r,h1⟩
 |rptr id i s=>obtain⟨r,h1,_⟩:=h;exact hr id ⟨r,h1⟩
 |clo f fs cs=>exact⟨hp fs h.1,hp cs h.2⟩
 |_=>trivial
theorem TV.wf_mono {boxes':List (Nat×Box)} {rows':List (Nat×Row)} (ha:∀a,AC.wf boxes rows a->AC.wf boxes' rows' a) {v:TV} (h:TV.wf boxes rows v):TV.wf boxes' rows' v:=by
 cases v with
 |dead=>trivial
 |v g cs=>exact fun a hm=>ha a (h a hm)
 |tup ps=>exact fun p hp a hm=>ha a (h p hp a hm)
theorem RelE.new (h:RelE Z tm boxes rows ρ tmps w) {d:Nat} (hd:Ab boxes d=none) {ty:TypeId} {cs:List AC} {arr:Array Value} (hw:∀a∈cs,AC.wf boxes rows a) (hc:CL (CC ρ w) cs arr.toList):
  RelE Z tm (ins boxes d ⟨ty,cs⟩) rows {ρ with bx:=upN ρ.bx d w.heap.size} tmps (w.alloc (.cells arr ty)):=by
 have hlk:∀(k:Nat) (b:Box),Ab boxes k=some b->Ab (ins boxes d ⟨ty,cs⟩) k=some b:=by
  intro k b hk;rw[Dq]
  ·exact hk
  ·rintro rfl;rw[hd]at hk;cases hk
 have hlk':∀(k:Nat) (b:Box),Ab (ins boxes d ⟨ty,cs⟩) k=some b->(k=d/\b=⟨ty,cs⟩)\/(k≠d/\Ab boxes k=some b):=by
  intro k b hk;by_cases hkd:k=d
  ·subst hkd;rw[EA _ _ _ hd]at hk;simp at hk;exact .inl ⟨rfl,hk.symm⟩
  ·rw[Dq _ _ _ _ hkd]at hk;exact .inr ⟨hkd,hk⟩
 have hwf:∀a,AC.wf boxes rows a->AC.wf (ins boxes d ⟨ty,cs⟩) rows a:=fun a=>AC.wf_mono (fun k b hk=>⟨b,hlk k b hk⟩) (fun k r hk=>⟨r,hk,rfl,rfl⟩);have hold:∀b,b<w.heap.size->(w.alloc (.cells arr ty)).heap[b]? =w.heap[b]? :=fun b hb=>Below.heap_alloc w _ b hb;have hcc:∀(a:AC) (x:Value),AC.wf boxes rows a->CC ρ w a x->CC {ρ with bx:=upN ρ.bx d w.heap.size} (w.alloc (.cells arr ty)) a x:=by
  intro a x ha hx;refine CC.mono (ρ:=ρ) (ρ':={ρ with bx:=upN ρ.bx d w.heap.size}) (fun b hb=>hb) (fun b hb=>hold b (h.ib b hb).1) a x ?_ hx;refine AC.agree_of (ρ:=ρ) (ρ':={ρ with bx:=upN ρ.bx d w.heap.size}) (fun k hkb=>BW _ _ _ ?_) (fun id _=>⟨rfl,rfl⟩) ha;rintro rfl;obtain⟨b,hb⟩:=hkb;rw[hd]at hb;cases hb
 refine⟨h.tl,fun i v hi=>TVR.mono' hcc (h.wt v (List.mem_of_getElem? hi)) (h.tv i v hi),fun v hv=>TV.wf_mono hwf (h.wt v hv),?_,?_,?_,?_,h.ri,?_,?_,?_,?_,h.i0,h.i1,?_⟩
 ·intro k b hk a ha;rcases hlk' k b hk with⟨rfl,rfl⟩|⟨hne,hk⟩
  ·exact hwf a (hw a ha)
  ·exact hwf a (h.wb k b hk a ha)
 ·intro k b hk;rcases hlk' k b hk with⟨rfl,rfl⟩|⟨hne,hk⟩
  ·refine⟨arr,?_,hc.mono fun a ha x hx=>hcc a x (hw a ha) hx,?_⟩
   ·show(w.alloc _).heap[upN ρ.bx k w.heap.size k]? =_;rw[BG];exact heap_alloc_new w _
   ·show¬Z.F (upN ρ.bx k w.heap.size k);rw[BG];exact fun hf=>Nat.lt_irrefl _ (h.fs _ hf)
  ·obtain⟨ar,h1,h2,h3⟩:=h.bx k b hk;refine⟨ar,?_,h2.mono fun a ha x hx=>hcc a x (h.wb k b hk a ha) hx,?_⟩
   ·show(w.alloc _).heap[upN ρ.bx d w.heap.size k]? =_;rw[BW _ _ _ hne,hold _ (M0 h1)];exact h1
   ·show¬Z.F (upN ρ.bx d w.heap.size k);rw[BW _ _ _ hne];exact h3
 ·intro k k' b b' hk hk' he;change upN ρ.bx d w.heap.size k=upN ρ.bx d w.heap.size k' at he;rcases hlk' k b hk with⟨e1,_⟩|⟨hne,hk1⟩<;>rcases hlk' k' b' hk' with⟨e2,_⟩|⟨hne',hk1'⟩
  ·rw[e1,e2]
  ·rw[e1,BG,BW _ _ _ hne']at he;have:=h.bxlt hk1';omega
  ·rw[e2,BG,BW _ _ _ hne]at he;have:=h.bxlt hk1;omega
  ·rw[BW _ _ _ hne,BW _ _ _ hne']at he;exact h.bi k k' b b' hk1 hk1' he
 ·intro id r hr;obtain⟨h1,h2,h0,xs,h3,h4⟩:=h.ro id r hr;exact⟨h1,h2,h0,xs,Ko h3 (fun g hg=>hold g (Qp8 h3 g hg)),h4.mono (fun b hb=>hb) (fun b hb=>hold b (h.ib b hb).1)⟩
 ·intro k b id r hk hr he;change (ρ.rv id).ownBlock=some (upN ρ.bx d w.heap.size k)at he;rcases hlk' k b hk with⟨rfl,rfl⟩|⟨hne,hk⟩
  ·rw[BG]at he;have:=(h.rwlt hr he).2;omega
  ·rw[BW _ _ _ hne]at he;exact h.br k b id r hk hr he
 ·intro b hb;obtain⟨h1,h2,h3⟩:=h.ib b hb;refine⟨by simp;omega,fun k bo hk=> ?_,h3⟩;show upN ρ.bx d w.heap.size k≠b;rcases hlk' k bo hk with⟨rfl,rfl⟩|⟨hne,hk⟩
  ·rw[BG];omega
  ·rw[BW _ _ _ hne];exact h2 k bo hk
 ·exact h.fr.alloc h.fs _
 ·intro k hk;have:=h.fs k hk;simp;omega
 ·intro k b hk;obtain⟨q1,bo,q2⟩:=h.k0 k b hk;exact⟨by show upN ρ.bx d w.heap.size k=b;rw[BW _ _ _ (by rintro rfl;rw[hd]at q2;cases q2)];exact q1,bo,hlk k bo q2⟩
theorem RelE.store (h:RelE Z tm boxes rows ρ tmps w) {key:Nat} {b:Box} (hk:Ab boxes key=some b) {cells:List AC} (hw:∀a∈cells,AC.wf boxes rows a) {arr:Array Value} (hc:CL (CC ρ w) cells arr.toList):
  RelE Z tm (upd boxes key ⟨b.ty,cells⟩) rows ρ tmps (w.setRow (ρ.bx key) arr):=by
 obtain⟨ar,h1,h2,h3⟩:=h.bx key b hk;have hng: ¬ρ.im (ρ.bx key):=fun hi=>(h.ib _ hi).2.1 key b hk rfl;have hold:∀g,g≠ρ.bx key->(w.setRow (ρ.bx key) arr).heap[g]? =w.heap[g]? :=fun g hg=>setRow_other w _ g _ hg;have hcc:∀(a:AC) (x:Value),CC ρ w a x->CC ρ (w.setRow (ρ.bx key) arr) a x:=fun a x hx=>CC.keep hng hold a x hx;have hlk':∀(k:Nat) (bo:Box),Ab (upd boxes key ⟨b.ty,cells⟩) k=some bo->(k=key/\bo=⟨b.ty,cells⟩)\/(k≠key/\Ab boxes k=some bo):=by
  intro k bo hk';by_cases hkd:k=key
  ·subst hkd;rw[EE _ _ _ _ hk]at hk';simp at hk';exact .inl ⟨rfl,hk'.symm⟩
  ·rw[C9 _ _ _ _ hkd]at hk';exact .inr ⟨hkd,hk'⟩
 have hbk:∀(k:Nat) (bo:Box),Ab (upd boxes key ⟨b.ty,cells⟩) k=some bo->∃bo',Ab boxes k=some bo':=by
  intro k bo hk';rcases hlk' k bo hk' with⟨rfl,rfl⟩|⟨_,h⟩
  ·exact⟨b,hk⟩
  ·exact⟨bo,h⟩
 have hwf : ∀ a, AC.wf boxes rows a -> AC.wf (upd boxes key ⟨b.ty, cells⟩) rows a := fun a => AC.wf_mono (fun k bo hk' => by
  by_cases hkd:k=key
  ·subst hkd;exact⟨_,EE _ _ _ _ hk⟩
  ·exact⟨bo,by rw[C9 _ _ _ _ hkd];exact hk'⟩) (fun k r hk=>⟨r,hk,rfl,rfl⟩)
 refine⟨h.tl,fun i v hi=>TVR.mono hcc v _ (h.tv i v hi),fun v hv=>TV.wf_mono hwf (h.wt v hv),?_,?_,?_,?_,h.ri,?_,?_,?_,?_,h.i0,h.i1,?_⟩
 ·intro k bo hk' a ha;rcases hlk' k bo hk' with⟨rfl,rfl⟩|⟨hne,hk'⟩
  ·exact hwf a (hw a ha)
  ·exact hwf a (h.wb k bo hk' a ha)
 ·intro k bo hk';rcases hlk' k bo hk' with⟨rfl,rfl⟩|⟨hne,hk'⟩
  ·exact⟨arr,setRow_heap w _ ar _ b.ty _ h1,hc.mono fun a _ x hx=>hcc a x hx,h3⟩
  ·obtain⟨ar',q1,q2,q3⟩:=h.bx k bo hk';refine⟨ar',?_,q2.mono fun a _ x hx=>hcc a x hx,q3⟩;rw[hold _ (fun e=>hne (h.bi k key bo b hk' hk e))];exact q1
 ·intro k k' bo bo' hk1 hk2 he;obtain⟨_,p1⟩:=hbk k bo hk1;obtain⟨_,p2⟩:=hbk k' bo' hk2;exact h.bi k k' _ _ p1 p2 he
 ·intro id r hr;obtain⟨q1,q2,q0,xs,q3,q4⟩:=h.ro id r hr;exact⟨q1,q2,q0,xs,Ko q3 (fun g hg=>hold g (fun e=>h.br key b id r hk hr (by rw[hg,e]))),q4.mono (fun _ hb=>hb) (fun g hg=>hold g (fun e=>hng (e▸hg)))⟩
 ·intro k bo id r hk1 hr;obtain⟨_,p1⟩:=hbk k bo hk1;exact h.br k _ id r p1 hr
 ·intro g hg;obtain⟨q1,q2,q3⟩:=h.ib g hg;exact⟨by simpa using q1,fun k bo hk1=>by obtain⟨_,p1⟩:=hbk k bo hk1;exact q2 k _ p1,q3⟩
 ·exact h.fr.trans ⟨rfl,rfl,rfl,by simp,fun g hg=>hold g (fun e=>h3 (e▸hg))⟩
 ·intro k hk;simpa using h.fs k hk
 ·intro k b' hk';obtain⟨q1,bo,q2⟩:=h.k0 k b' hk';refine⟨q1,?_⟩;by_cases hkd:k=key
  ·subst hkd;exact⟨_,EE _ _ _ _ hk⟩
  ·exact⟨bo,by rw[C9 _ _ _ _ hkd];exact q2⟩
theorem RelE.addRow (h:RelE Z tm boxes rows ρ tmps w) {d:Nat} (hd:Ab rows d=none) {r:Row} {v':Value} {xs:List Value} {w':World} (hb:Below w.heap.size w w')
  (hw:0<r.w) (hown:Er w' r.ty r.w v' r.n xs) (hrow:RowC ρ.im w' r.ks r.l xs) (hfresh:∀g,v'.ownBlock=some g->w.heap.size<=g):
  RelE Z tm boxes (ins rows d r) {ρ with rv:=upN ρ.rv d v',wd:=upN ρ.wd d r.w} tmps w':=by
 have hlk:∀(k:Nat) (q:Row),Ab rows k=some q->Ab (ins rows d r) k=some q:=by
  intro k q hk;rw[Dq]
  ·exact hk
  ·rintro rfl;rw[hd]at hk;cases hk
 have hlk':∀(k:Nat) (q:Row),Ab (ins rows d r) k=some q->(k=d/\q=r)\/(k≠d/\Ab rows k=some q):=by
  intro k q hk;by_cases hkd:k=d
  ·subst hkd;rw[EA _ _ _ hd]at hk;simp at hk;exact .inl ⟨rfl,hk.symm⟩
  ·rw[Dq _ _ _ _ hkd]at hk;exact .inr ⟨hkd,hk⟩
 have hwf:∀a,AC.wf boxes rows a->AC.wf boxes (ins rows d r) a:=fun a=>AC.wf_mono (fun k b hk=>⟨b,hk⟩) (fun k q hk=>⟨q,hlk k q hk,rfl,rfl⟩);have hold:∀b,b<w.heap.size->w'.heap[b]? =w.heap[b]? :=fun b hlt=>hb.block b hlt;have hcc:∀(a:AC) (x:Value),AC.wf boxes rows a->CC ρ w a x->CC {ρ with rv:=upN ρ.rv d v',wd:=upN ρ.wd d r.w} w' a x:=by
  intro a x ha hx;refine CC.mono (ρ:=ρ) (ρ':={ρ with rv:=upN ρ.rv d v',wd:=upN ρ.wd d r.w}) (fun b hb=>hb) (fun b hb=>hold b (h.ib b hb).1) a x ?_ hx;refine AC.agree_of (ρ:=ρ) (ρ':={ρ with rv:=upN ρ.rv d v',wd:=upN ρ.wd d r.w}) (fun k _=>rfl) (fun id ⟨q,hq⟩=> ?_) ha;have:id≠d:=by rintro rfl;rw[hd]at hq;cases hq
  exact⟨BW _ _ _ this,BW _ _ _ this⟩
 refine⟨h.tl,fun i v hi=>TVR.mono' hcc (h.wt v (List.mem_of_getElem? hi)) (h.tv i v hi),fun v hv=>TV.wf_mono hwf (h.wt v hv),fun k b hk a ha=>hwf a (h.wb k b hk a ha),?_,h.bi,?_,?_,?_,?_,?_,?_,h.i0,h.i1,fun k b hk=>h.k0 k b hk⟩
 ·intro k b hk;obtain⟨ar,h1,h2,h3⟩:=h.bx k b hk;exact⟨ar,by rw[hold _ (M0 h1)];exact h1,h2.mono fun a ha x hx=>hcc a x (h.wb k b hk a ha) hx,h3⟩
 ·intro id q hq;rcases hlk' id q hq with⟨e1,e2⟩|⟨hne,hq⟩
  ·subst e1 e2;refine⟨hw,BG _ _ _,?_,xs,?_,hrow⟩
   ·intro g hg hf;change (upN ρ.rv id v' id).ownBlock=some g at hg;rw[BG]at hg;exact Nat.lt_irrefl _ (Nat.lt_of_lt_of_le (h.fs g hf) (hfresh g hg))
   show Er w' q.ty q.w (upN ρ.rv id v' id) q.n xs;rw[BG];exact hown
  ·obtain⟨h1,h2,h0,ys,h3,h4⟩:=h.ro id q hq;refine⟨h1,by show upN ρ.wd d r.w id=_;rw[BW _ _ _ hne];exact h2,by show∀g,(upN ρ.rv d v' id).ownBlock=some g->_;rw[BW _ _ _ hne];exact h0,ys,?_,h4.mono (fun b hb=>hb) (fun b hb=>hold b (h.ib b hb).1)⟩;show Er w' q.ty q.w (upN ρ.rv d v' id) q.n ys;rw[BW _ _ _ hne];exact Ko h3 fun g hg=>hold g (h.rwlt hq hg).2
 ·intro id id' q q' g hq hq' hg hg';change (upN ρ.rv d v' id).ownBlock=_ at hg;change (upN ρ.rv d v' id').ownBlock=_ at hg';rcases hlk' id q hq with⟨e1,_⟩|⟨hne,hq1⟩<;>rcases hlk' id' q' hq' with⟨e2,_⟩|⟨hne',hq1'⟩
  ·rw[e1,e2]
  ·rw[e1,BG]at hg;rw[BW _ _ _ hne']at hg';have:=hfresh g hg;have:=(h.rwlt hq1' hg').2;omega
  ·rw[e2,BG]at hg';rw[BW _ _ _ hne]at hg;have:=hfresh g hg';have:=(h.rwlt hq1 hg).2;omega
  ·rw[BW _ _ _ hne]at hg;rw[BW _ _ _ hne']at hg';exact h.ri id id' q q' g hq1 hq1' hg hg'
 ·intro k b id q hk hq he;change (upN ρ.rv d v' id).ownBlock=some (ρ.bx k)at he;rcases hlk' id q hq with⟨e1,_⟩|⟨hne,hq1⟩
  ·rw[e1,BG]at he;have:=hfresh _ he;have:=h.bxlt hk;omega
  ·rw[BW _ _ _ hne]at he;exact h.br k b id q hk hq1 he
 ·intro b hbm;obtain⟨h1,h2,h3⟩:=h.ib b hbm;refine⟨Nat.lt_of_lt_of_le h1 hb.size,h2,fun id q hq he=> ?_⟩;change (upN ρ.rv d v' id).ownBlock=some b at he;rcases hlk' id q hq with⟨e1,_⟩|⟨hne,hq1⟩
  ·rw[e1,BG]at he;have:=hfresh _ he;omega
  ·rw[BW _ _ _ hne]at he;exact h3 id q hq1 he
 ·exact h.fr.trans (Fr.of_below hb h.fs)
 ·exact fun k hk=>Nat.lt_of_lt_of_le (h.fs k hk) hb.size
def AC.free (id:Nat):AC->Prop
 | .own j _ _=>j≠id
 | .rptr j _ _=>j≠id
 |_=>True
def TV.free (id:Nat):TV->Prop
 | .v _ cs=>∀a∈cs,AC.free id a
 | .tup ps=>∀p∈ps,∀a∈p.2,AC.free id a
 | .dead=>True
theorem TVR.mono2 {ρ ρ':Env} {w w':World} {v:TV} {Q:AC->Prop} (hcc:∀(a:AC) (x:Value),Q a->CC ρ w a x->CC ρ' w' a x)
  (hw:match v with| .v _ cs=>∀a∈cs,Q a| .tup ps=>∀p∈ps,∀a∈p.2,Q a| .dead=>True) {x:Value} (h:TVR ρ w v x):TVR ρ' w' v x:=by
 have hl:∀{l xs},(∀a∈l,Q a)->CL (CC ρ w) l xs->CL (CC ρ' w') l xs:=fun hh h=>h.mono fun a ha x hx=>hcc a x (hh a ha) hx;cases v with
 |dead=>trivial
 |v g cs=>
  cases g
  ·obtain⟨a,h1,h2⟩:=h;subst h1;exact⟨a,rfl,hcc a _ (hw a (by simp)) h2⟩
  ·obtain⟨ys,h1,h2⟩:=h;exact⟨ys,h1,hl hw h2⟩
 |tup ps=>
  obtain⟨ys,h1,h2⟩:=h;refine⟨ys,h1,?_⟩;generalize ys.toList=l at h2;clear h1;induction ps generalizing l with
  |nil=>cases l<;>first|exact h2|exact h2.elim
  |cons p ps ih=>
   cases l with
   |nil=>exact h2.elim
   |cons y l=>
    obtain⟨g,cs⟩:=p;refine⟨?_,ih (fun q hq=>hw q (by simp[hq])) l h2.2⟩;have:=h2.1;cases g
    ·obtain⟨a,q1,q2⟩:=this;subst q1;exact⟨a,rfl,hcc a _ (hw (false,[a]) (by simp) a (by simp)) q2⟩
    ·obtain⟨ys,q1,q2⟩:=this;exact⟨ys,q1,hl (hw (true,cs) (by simp)) q2⟩
theorem RelE.turnRow (h:RelE Z tm boxes rows ρ tmps w) {id:Nat} {r:Row} (hid:Ab rows id=some r) {r':Row} {v':Value} {xs:List Value} {w':World} (hg:w.grownBy w' (ρ.rv id).ownBlock)
  (hw:r'.w=r.w) (hown:Er w' r'.ty r'.w v' r'.n xs) (hrow:RowC ρ.im w' r'.ks r'.l xs) (hplace:v'.ownBlock=(ρ.rv id).ownBlock\/∀g,v'.ownBlock=some g->w.heap.size<=g)
  (hag:(v'=ρ.rv id/\r'.n=r.n)\/((∀v∈tm,TV.free id v)/\∀(k:Nat) (b:Box),Ab boxes k=some b->∀a∈b.cells,AC.free id a)):
  RelE Z tm boxes (upd rows id r') {ρ with rv:=upN ρ.rv id v'} tmps w':=by
 have hlk':∀(k:Nat) (q:Row),Ab (upd rows id r') k=some q->(k=id/\q=r')\/(k≠id/\Ab rows k=some q):=by
  intro k q hk;by_cases hkd:k=id
  ·subst hkd;rw[EE _ _ _ _ hid]at hk;simp at hk;exact .inl ⟨rfl,hk.symm⟩
  ·rw[C9 _ _ _ _ hkd]at hk;exact .inr ⟨hkd,hk⟩
 have hng:∀b,ρ.im b->some b≠(ρ.rv id).ownBlock:=fun b hb e=>(h.ib b hb).2.2 id r hid e.symm;have himb:∀b,ρ.im b->w'.heap[b]? =w.heap[b]? :=fun b hb=>hg.block b (h.ib b hb).1 (hng b hb)
 let Q:AC->Prop:=fun a=>AC.wf boxes rows a/\((v'=ρ.rv id/\r'.n=r.n)\/AC.free id a)
 have hwf:∀a,Q a->AC.wf boxes (upd rows id r') a:=by
  rintro a ⟨ha,hq⟩;cases a with
  |ptr=>exact ha
  |own j w1 n1=>
   obtain⟨q,q1,q2,q3⟩:=ha;by_cases hj:j=id
   ·subst hj;rcases hq with⟨_,hn⟩|hf
    ·rw[hid]at q1;simp at q1;subst q1;exact⟨r',EE _ _ _ _ hid,by rw[hn,q2],by rw[hw,q3]⟩
    ·exact absurd rfl hf
   ·exact⟨q,by rw[C9 _ _ _ _ hj];exact q1,q2,q3⟩
  |rptr j i1 s1=>
   obtain⟨q,q1,q2⟩:=ha;by_cases hj:j=id
   ·subst hj;rcases hq with⟨_,hn⟩|hf
    ·rw[hid]at q1;simp at q1;subst q1;exact⟨r',EE _ _ _ _ hid,by rw[hn];exact q2⟩
    ·exact absurd rfl hf
   ·exact⟨q,by rw[C9 _ _ _ _ hj];exact q1,q2⟩
  |vptr=>exact ha
  |clo=>exact ha
  |_=>trivial
 have hcc:∀(a:AC) (x:Value),Q a->CC ρ w a x->CC {ρ with rv:=upN ρ.rv id v'} w' a x:=by
  rintro a x ⟨_,hq⟩ hx;refine CC.mono (ρ:=ρ) (ρ':={ρ with rv:=upN ρ.rv id v'}) (fun b hb=>hb) himb a x ?_ hx;have key:∀j,((v'=ρ.rv id/\r'.n=r.n)\/j≠id)->upN ρ.rv id v' j=ρ.rv j:=by
   intro j hj;by_cases hji:j=id
   ·subst hji;rcases hj with⟨e,_⟩|hf
    ·rw[BG,e]
    ·exact absurd rfl hf
   ·exact BW _ _ _ hji
  cases a with
  |own j _ _=>exact⟨key j hq,rfl⟩
  |rptr j _ _=>exact⟨key j hq,rfl⟩
  |ptr=>rfl
  |clo f fs cs=>exact⟨fun a _=>by cases a<;>first|rfl|trivial,fun a _=>by cases a<;>first|rfl|trivial⟩
  |_=>trivial
 have hQt:∀v∈tm,match v with| .v _ cs=>∀a∈cs,Q a| .tup ps=>∀p∈ps,∀a∈p.2,Q a| .dead=>True:=by
  intro v hv;have h1:=h.wt v hv;have h2:(v'=ρ.rv id/\r'.n=r.n)\/TV.free id v:=OZ hag (fun x=>x) fun x=>x.1 v hv;cases v with
  |dead=>trivial
  |v g cs=>exact fun a ha=>⟨h1 a ha,OZ h2 (fun x=>x) fun x=>x a ha⟩
  |tup ps=>exact fun p hp a ha=>⟨h1 p hp a ha,OZ h2 (fun x=>x) fun x=>x p hp a ha⟩
 have hQb:∀(k:Nat) (b:Box),Ab boxes k=some b->∀a∈b.cells,Q a:=fun k b hk a ha=>⟨h.wb k b hk a ha,OZ hag (fun x=>x) fun x=>x.2 k b hk a ha⟩;have hnew:∀g,v'.ownBlock=some g->(ρ.rv id).ownBlock=some g\/w.heap.size<=g:=by
  intro g e;rcases hplace with hp|hp
  ·rw[hp]at e;exact .inl e
  ·exact .inr (hp g e)
 refine⟨h.tl,fun i v hi=>TVR.mono2 hcc (hQt v (List.mem_of_getElem? hi)) (h.tv i v hi),fun v hv=> ?_,fun k b hk a ha=>hwf a (hQb k b hk a ha),?_,h.bi,?_,?_,?_,?_,?_,?_,h.i0,h.i1,fun k b hk=>h.k0 k b hk⟩
 ·have:=hQt v hv;cases v with
  |dead=>trivial
  |v g cs=>exact fun a ha=>hwf a (this a ha)
  |tup ps=>exact fun p hp a ha=>hwf a (this p hp a ha)
 ·intro k b hk;obtain⟨ar,h1,h2,h3⟩:=h.bx k b hk;refine⟨ar,?_,h2.mono fun a ha x hx=>hcc a x (hQb k b hk a ha) hx,h3⟩;rw[hg.block _ (M0 h1) (fun e=>h.br k b id r hk hid e.symm)];exact h1
 ·intro j q hq;rcases hlk' j q hq with⟨e1,e2⟩|⟨hne,hq1⟩
  ·subst e1 e2;obtain⟨q1,q2,q0,_⟩:=h.ro j r hid;refine⟨by rw[hw];exact q1,by rw[hw];exact q2,?_,xs,?_,hrow⟩
   ·intro g hgg hf;change (upN ρ.rv j v' j).ownBlock=some g at hgg;rw[BG]at hgg;rcases hnew g hgg with hn|hn
    ·exact q0 g hn hf
    ·exact Nat.lt_irrefl _ (Nat.lt_of_lt_of_le (h.fs g hf) hn)
   show Er w' q.ty q.w (upN ρ.rv j v' j) q.n xs;rw[BG];exact hown
  ·obtain⟨h1,h2,h0,ys,h3,h4⟩:=h.ro j q hq1;refine⟨h1,h2,by show∀g,(upN ρ.rv id v' j).ownBlock=some g->_;rw[BW _ _ _ hne];exact h0,ys,?_,h4.mono (fun b hb=>hb) himb⟩;show Er w' q.ty q.w (upN ρ.rv id v' j) q.n ys;rw[BW _ _ _ hne];exact Ko h3 fun g hgg=>hg.block g (h.rwlt hq1 hgg).2 (fun e=>hne (h.ri j id q r g hq1 hid hgg e.symm))
 ·intro j j' q q' g hq hq' hgj hgj';change (upN ρ.rv id v' j).ownBlock=_ at hgj;change (upN ρ.rv id v' j').ownBlock=_ at hgj';rcases hlk' j q hq with⟨e1,_⟩|⟨hne,hq1⟩<;>rcases hlk' j' q' hq' with⟨e2,_⟩|⟨hne',hq1'⟩
  ·rw[e1,e2]
  ·rw[e1,BG]at hgj;rw[BW _ _ _ hne']at hgj';rcases hnew g hgj with hn|hn
   ·rw[e1];exact(h.ri j' id q' r g hq1' hid hgj' hn).symm
   ·have:=(h.rwlt hq1' hgj').2;omega
  ·rw[e2,BG]at hgj';rw[BW _ _ _ hne]at hgj;rcases hnew g hgj' with hn|hn
   ·rw[e2];exact h.ri j id q r g hq1 hid hgj hn
   ·have:=(h.rwlt hq1 hgj).2;omega
  ·rw[BW _ _ _ hne]at hgj;rw[BW _ _ _ hne']at hgj';exact h.ri j j' q q' g hq1 hq1' hgj hgj'
 ·intro k b j q hk hq he;change (upN ρ.rv id v' j).ownBlock=some (ρ.bx k)at he;rcases hlk' j q hq with⟨e1,_⟩|⟨hne,hq1⟩
  ·rw[e1,BG]at he;rcases hnew _ he with hn|hn
   ·exact h.br k b id r hk hid hn
   ·have:=h.bxlt hk;omega
  ·rw[BW _ _ _ hne]at he;exact h.br k b j q hk hq1 he
 ·intro b hbm;obtain⟨h1,h2,h3⟩:=h.ib b hbm;refine⟨Nat.lt_of_lt_of_le h1 hg.size,h2,fun j q hq he=> ?_⟩;change (upN ρ.rv id v' j).ownBlock=some b at he;rcases hlk' j q hq with⟨e1,_⟩|⟨hne,hq1⟩
  ·rw[e1,BG]at he;rcases hnew _ he with hn|hn
   ·exact h3 id r hid hn
   ·omega
  ·rw[BW _ _ _ hne]at he;exact h3 j q hq1 he
 ·refine h.fr.grown hg h.fs fun g e=>(h.rwlt hid e).1
 ·exact fun k hk=>Nat.lt_of_lt_of_le (h.fs k hk) hg.size
end
end Go.Bm
