/- a strings.Builder beside the machine's states: what the machine's steps leave alone, and what a write leaves alone -/
import Derived.Test.YtnnpdlgenmnekaaGreatDoorSeStr
import Derived.Test.YtnnpdlgenmnekaaGreatDoorBmTy
set_option linter.unusedVariables false
set_option linter.unusedSimpArgs false
set_option maxRecDepth 100000
namespace Go.Bm
open Go.Proofs Go.RowKit
section
variable {P:Program} {C:Cfg} {w:World} {Z:Base} {R:Type}
theorem LK (A:Ak P C) (D:∀t∈C.eqOk,P.stoodInHeld t=false) {ops:Array Oper} {Q:Exit->Act->World->Prop} {K:St->Option R} {r:R} {J:List Oper}:
  ∀(l:List Oper) (s:St) (a:Act) (w:World),Rel Z s a.tmps w->AF P C ops.toList l s K=some r->
  (∀(G:St) (E:Act) (w':World),K G=some r->Rel Z G E.tmps w'->E.defers=a.defers->wpList P ops Q J E w')->wpList P ops Q (l++J) a w
 |[],s,a,w,L,h,N=>N s a w h L rfl
 |o::l,s,a,w,L,h,N=>by
  simp only[AF]at h;have:=Fj (next:=wpList P ops Q (l++J)) (Q:=Q) A D L h (λX G E w' T O U=>LK A D l G E w' O T (λs2 a2 V h1 h2 h3=>N s2 a2 V h1 h2 (h3.trans U)));simp only[c9,wpList];split
  ·rename_i S;rw[cm S]at this;exact .inl this
  ·rename_i S;rw[cd S]at this;exact this
def E0 (Z:Base) (b:Nat) (v:Value) (w:World) (h:Gt Z.F w):Base:=⟨λk=>Z.F k\/k=b\/v.ownBlock=some k,w,Z.I0,Z.K0,h.mono λ_ _ _ q=>⟨.inl q,rfl⟩⟩
theorem Li {b:Nat} {v:Value} {h:Gt Z.F w} (A:InZ Z):InZ (E0 Z b v w h):=A
theorem Ok {b:Nat} {v:Value} {h:Gt Z.F w} {s:St} {tmps:Array Value} {w':World} (A:Rel (E0 Z b v w h) s tmps w') (h':Gt Z.F w'):Rel (E0 Z b v w' h') s tmps w':=by
 obtain⟨ρ,q⟩:=A;exact⟨ρ,q.tl,q.tv,q.wt,q.wb,q.bx,q.bi,q.ro,q.ri,q.br,q.ib,Fr.refl _ _,q.fs,q.i0,q.i1,q.k0⟩
theorem SF {B e size n:Nat} {v:Value} {xs:List Value} {w w':World} (h:w.ownsRow B e size v n xs) (hb:∀g,v.ownBlock=some g->w'.heap[g]? =w.heap[g]?):w'.ownsRow B e size v n xs:=by
 refine⟨h.1,?_⟩;rcases h.2 with q|⟨g,cap,cur,q1,q2,A,D⟩
 ·exact .inl q
 ·exact .inr ⟨g,cap,cur,q1,q2,by rw[hb g (by rw[q1];rfl)];exact A,D⟩
theorem IB {B e size n:Nat} {v:Value} {xs:List Value} {w:World} (h:w.ownsRow B e size v n xs) {g:Nat} (A:v.ownBlock=some g):B<=g/\g<w.heap.size:=by
 rcases h.2 with⟨q,_⟩|⟨E,cap,cur,q1,q2,D,G⟩
 ·rw[q]at A;simp[Value.ownBlock]at A
 ·rw[q1]at A;simp[Value.ownBlock]at A;subst A;exact⟨q2,(az.1 D).1⟩
theorem PI {B b:Nat} {v:Value} {bs:List Value} {w w':World} (h:Bld B b v bs w) (h1:w'.heap[b]? =w.heap[b]?) (h2:∀g,v.ownBlock=some g->w'.heap[g]? =w.heap[g]?):Bld B b v bs w':=by
 obtain⟨q1,⟨p,q2,A⟩,D,E⟩:=h;exact⟨q1,⟨p,q2,by rw[h1];exact A⟩,SF D h2,E⟩
theorem O7 {B b:Nat} {v:Value} {bs:List Value} {w:World} (h:Bld B b v bs w):b<w.heap.size:=by
 obtain⟨_,⟨p,_,q⟩,_⟩:=h;exact(az.1 q).1
structure RG (Z : Base) (B b : Nat) (v : Value) (bs : List Value) (s : St) (tmps : Array Value) (w : World) : Prop where
 bld:Bld B b v bs w
 fr:Fr Z.F Z.w0 w
 hB:B<=w.heap.size
 gt:Gt Z.F w
 rel:Rel (E0 Z b v w gt) s tmps w
variable {B b:Nat} {v:Value} {bs:List Value} {s:St} {tmps:Array Value}
theorem RG.next (h:RG Z B b v bs s tmps w) {E:St} {A:Array Value} {w':World} (G:Rel (E0 Z b v w h.gt) E A w'):RG Z B b v bs E A w':=by
 have D:Fr (E0 Z b v w h.gt).F w w':=by obtain⟨_,q⟩:=G;exact q.fr
 have J:Gt Z.F w':=h.gt.mono λg cs _ q=>⟨q,D.block g (.inl q)⟩;exact⟨PI h.bld (D.block b (.inr (.inl rfl))) λg e=>D.block g (.inr (.inr e)),h.fr.trans (D.mono λ_ q=> .inl q),Nat.le_trans h.hB D.size,J,Ok G J⟩
theorem RG.code (A:Ak P C) (N:∀t∈C.eqOk,P.stoodInHeld t=false) (D:P.follows .mixedOrders=true) (Q:InZ Z) {c:Code} {L blk:Nat} {K:Ex->St->Option R} {r:R} {a:Act} (E:SubOK P C c blk)
  (h:RG Z B b v bs s a.tmps w) (S:Ax P C L c blk s K=some r):
  c.wp P (λe O w'=>∃G J,Fc G=e/\K G J=some r/\RG Z B b v bs J O.tmps w'/\O.defers=a.defers) a w:=by
 refine wp_mono (Bo A N D (Li Q) c L blk s a w K E h.rel rfl S) ?_;rintro e O w' ⟨G,J,q1,q2,T,U⟩;exact⟨G,J,q1,q2,h.next T,U⟩
theorem RG.re (h:RG Z B b v bs s tmps w) (A:InZ Z) {sk:Sk} {vars:List AC} (D:sk.okB=true) (E:AN sk s=some vars):RG Z B b v bs (Ag sk vars) tmps w:=by
 obtain⟨ρ,q⟩:=h.rel;exact⟨h.bld,h.fr,h.hB,h.gt,⟨ρ,RelE.rebuild q (Li (h:=h.gt) A) D E⟩⟩
theorem RG.write {tm:List TV} (h:RG Z B b v bs ⟨tm,[],[]⟩ tmps w) (U:∀k,Z.I0 k->k<B) (hF:∀k,Z.F k->k<B) {L:Value} {E:List Value} {w':World} (N:Bld B b L E w') (A:FM b v w w') (V:Ha w v L):
  RG Z B b L E ⟨tm,[],[]⟩ tmps w':=by
 obtain⟨ρ,q⟩:=h.rel;obtain⟨X,Y,k3,O,T⟩:=A;have a0:=h.bld.lo;have G:∀k,Z.F k->w'.heap[k]? =w.heap[k]? :=λk A=>by
  have:=hF k A;have:=h.hB;exact T k (by omega) (by omega) λe=>by have:=(IB h.bld.row e).1;omega
 have D:∀k,ρ.im k->k<w.heap.size/\k≠b/\v.ownBlock≠some k:=λk A=>by
  refine⟨(q.ib k A).1,?_⟩;rcases q.i1 k A with i|i
  ·have:=U k i;exact⟨by omega,λe=>by have:=(IB h.bld.row e).1;omega⟩
  ·exact⟨λe=>i (.inr (.inl e)),λe=>i (.inr (.inr e))⟩
 have hg:Gt Z.F w':=h.gt.mono λg cs _ q=>⟨q,G g q⟩;have Q:∀(a:AC) (x:Value),CC ρ w a x->CC ρ w' a x:=λa x hx=>CC.mono (ρ:=ρ) (ρ':=ρ) (λ_ q=>q) (λk A=>T k (D k A).1 (D k A).2.1 (D k A).2.2) a x (AC.agree_refl rfl rfl rfl a) hx;refine⟨N,h.fr.trans ⟨X,Y,k3,O,G⟩,Nat.le_trans h.hB O,hg,⟨ρ,q.tl,λi u hi=>TVR.mono Q u _ (q.tv i u hi),q.wt,λk b A=>by simp[Aa]at A,λk b A=>by simp[Aa]at A,λk k' b b' A=>by simp[Aa]at A,λid r J=>by simp[Aa]at J,
  λid id' r r' g J=>by simp[Aa]at J,λk b id r A=>by simp[Aa]at A,λk A=>⟨ax (D k A).1 O,λk bo A=>by simp[Aa]at A,λid r J=>by simp[Aa]at J⟩,Fr.refl _ _,?_,q.i0,?_,q.k0⟩⟩
 ·rintro k (A|rfl|A)
  ·have:=hF k A;have:=h.hB;omega
  ·exact O7 N
  ·exact(IB N.row A).2
 ·intro k A;rcases q.i1 k A with i|i
  ·exact .inl i
  ·refine .inr ?_;rintro(S|rfl|S)
   ·exact i (.inl S)
   ·exact(D k A).2.1 rfl
   ·rcases V k S with e|e
    ·exact(D k A).2.2 e
    ·have:=(D k A).1;omega
end
end Go.Bm
