/- a slice that grows beside the machine's states -/
import Derived.Test.YtnnpdlgenmnekaaGreatDoorSeLsB
set_option linter.unusedVariables false
set_option linter.unusedSimpArgs false
set_option maxRecDepth 100000
namespace Go.Bm
open Go.Proofs Go.RowKit
section
variable {P:Program} {C:Cfg} {w:World} {Z:Base} {R:Type}
def D6 (Z:Base) (v:Value) (w:World) (h:Gt Z.F w):Base:=⟨λk=>Z.F k\/v.ownBlock=some k,w,Z.I0,Z.K0,h.mono λ_ _ _ q=>⟨.inl q,rfl⟩⟩
structure RO (Z : Base) (v : Value) (acc : List Value) (s : St) (tmps : Array Value) (w : World) : Prop where
 own:A_ w 3 1 v acc.length acc
 ho:∀g,v.ownBlock=some g-> ¬Z.F g
 fr:Fr Z.F Z.w0 w
 hF:∀k,Z.F k->k<w.heap.size
 gt:Gt Z.F w
 rel:Rel (D6 Z v w gt) s tmps w
variable {v:Value} {acc:List Value} {s:St} {tmps:Array Value}
theorem L2 {h:Gt Z.F w} {w':World} (A:Rel (D6 Z v w h) s tmps w') (h':Gt Z.F w'):Rel (D6 Z v w' h') s tmps w':=by
 obtain⟨ρ,q⟩:=A;exact⟨ρ,q.tl,q.tv,q.wt,q.wb,q.bx,q.bi,q.ro,q.ri,q.br,q.ib,Fr.refl _ _,q.fs,q.i0,q.i1,q.k0⟩
theorem RO.next (h:RO Z v acc s tmps w) {E:St} {A:Array Value} {w':World} (G:Rel (D6 Z v w h.gt) E A w'):RO Z v acc E A w':=by
 have D:Fr (D6 Z v w h.gt).F w w':=by obtain⟨_,q⟩:=G;exact q.fr
 have J:Gt Z.F w':=h.gt.mono λg cs _ q=>⟨q,D.block g (.inl q)⟩;exact⟨De h.own λg e=>D.block g (.inr e),h.ho,h.fr.trans (D.mono λ_ q=> .inl q),λk L=>ax (h.hF k L) D.size,J,L2 G J⟩
theorem RO.code (A:Ak P C) (N:∀t∈C.eqOk,P.stoodInHeld t=false) (D:P.follows .mixedOrders=true) (Q:InZ Z) {c:Code} {L blk:Nat} {K:Ex->St->Option R} {r:R} {a:Act} (E:SubOK P C c blk)
  (h:RO Z v acc s a.tmps w) (S:Ax P C L c blk s K=some r):
  c.wp P (λe O w'=>∃G J,Fc G=e/\K G J=some r/\RO Z v acc J O.tmps w'/\O.defers=a.defers) a w:=by
 refine wp_mono (Bo A N D (show InZ (D6 Z v w h.gt)from Q) c L blk s a w K E h.rel rfl S) ?_;rintro e O w' ⟨G,J,q1,q2,T,U⟩;exact⟨G,J,q1,q2,h.next T,U⟩
theorem RO.re (h:RO Z v acc s tmps w) (A:InZ Z) {sk:Sk} {vars:List AC} (D:sk.okB=true) (E:AN sk s=some vars):RO Z v acc (Ag sk vars) tmps w:=by
 obtain⟨ρ,q⟩:=h.rel;exact⟨h.own,h.ho,h.fr,h.hF,h.gt,⟨ρ,RelE.rebuild q (show InZ (D6 Z v w h.gt)from A) D E⟩⟩
theorem RO.bool {a:Act} (h:RO Z v acc s a.tmps w) {x:Operand} {q:Bool} (A:Ai s.tmps x= .c (.bool q)):a.eval x= .bool q:=by
 obtain⟨ρ,e⟩:=h.rel;have e:=Du e x;rw[A]at e;exact e.bool
theorem RO.rawv {a:Act} (h:RO Z v acc s a.tmps w) {x:Operand} {u:Value} (A:Ai s.tmps x= .c (.raw u)):a.eval x=u:=by
 obtain⟨ρ,e⟩:=h.rel;have e:=Du e x;rw[A]at e;obtain⟨c,h1,h2⟩:=e;simp only[a9,cy]at h1;subst h1;exact h2.1
theorem RO.write (h:RO Z v acc s tmps w) (U:∀k,Z.I0 k->Z.F k) {Q:Value} {D:List Value} {w':World} (hw:A_ w' 3 1 Q D.length D) (G:w.grownBy w' v.ownBlock) (hp:Q.ownBlock=v.ownBlock\/Q.ownBlock=some w.heap.size):
  RO Z Q D s tmps w':=by
 obtain⟨ρ,q⟩:=h.rel;obtain⟨tm,aB,aC⟩:=s;have S:∀k,Z.F k->w'.heap[k]? =w.heap[k]? :=λk A=>G.block k (h.hF k A) λe=>h.ho k e.symm A;have N:∀k,k<w.heap.size->v.ownBlock≠some k->w'.heap[k]? =w.heap[k]? :=λk A hn=>G.block k A λe=>hn e.symm;have J:∀k,ρ.im k->k<w.heap.size/\v.ownBlock≠some k:=λk A=>by
  refine⟨(q.ib k A).1,λe=> ?_⟩;rcases q.i1 k A with i|i
  ·exact h.ho k e (U k i)
  ·exact i (.inr e)
 have O:∀k,¬(D6 Z v w h.gt).F k->k<w.heap.size-> ¬(Z.F k\/Q.ownBlock=some k):=by
  rintro k A V (i|i)
  ·exact A (.inl i)
  ·rcases hp with e|e
   ·exact A (.inr (e▸i))
   ·rw[e]at i;simp at i;omega
 have X:Gt Z.F w':=h.gt.mono λg cs _ q=>⟨q,S g q⟩;have L:∀b,ρ.im b->w'.heap[b]? =w.heap[b]? :=λk A=>N k (J k A).1 (J k A).2;have T:∀(a:AC) (x:Value),CC ρ w a x->CC ρ w' a x:=λa x Y=>CC.mono (ρ:=ρ) (ρ':=ρ) (λ_ q=>q) L a x (AC.agree_refl rfl rfl rfl a) Y;have a0:∀g,Q.ownBlock=some g-> ¬Z.F g:=by
  intro g e i;rcases hp with e'|e'
  ·exact h.ho g (e'▸e) i
  ·rw[e']at e;simp at e;have:=h.hF g i;omega
 refine⟨hw,a0,h.fr.trans ⟨G.os,G.tape,G.output,G.size,S⟩,λk A=>ax (h.hF k A) G.size,X,⟨ρ,q.tl,λi u hi=>TVR.mono T u _ (q.tv i u hi),q.wt,q.wb,?_,q.bi,?_,q.ri,q.br,?_,Fr.refl _ _,?_,q.i0,?_,q.k0⟩⟩
 ·intro k b A;obtain⟨arr,h1,h2,h3⟩:=q.bx k b A;have V:=q.bxlt A;exact⟨arr,by rw[N _ V λe=>h3 (.inr e)];exact h1,h2.mono λa _ x Y=>T a x Y,O _ h3 V⟩
 ·intro id r hr;obtain⟨h1,h2,h3,xs,h4,h5⟩:=q.ro id r hr;exact⟨h1,h2,λg E=>O g (h3 g E) (q.rwlt hr E).2,xs,De h4 λg E=>N g (q.rwlt hr E).2 λe=>h3 g E (.inr e),h5.mono (λ_ h=>h) L⟩
 ·exact λk A=>⟨ax (J k A).1 G.size,(q.ib k A).2⟩
 ·rintro k (A|A)
  ·exact ax (h.hF k A) G.size
  ·exact GP hw k A
 ·intro k A;rcases q.i1 k A with i|i
  ·exact .inl i
  ·exact .inr (O k i (J k A).1)
end
end Go.Bm
