/- a strings.Builder beside the machine's states: what the machine's steps leave alone, and what a write leaves alone -/
import Derived.Test.YtnnpdlgenmnekaaGreatDoorSeStr
import Derived.Test.YtnnpdlgenmnekaaGreatDoorBmTy
set_option linter.unusedVariables false
set_option linter.unusedSimpArgs false
set_option maxRecDepth 100000
namespace Go.Bm
open Go.Proofs Go.RowKit
section
variable {P:Program} {C:Cfg} {w:World} {Z:Base} {R:Type}
theorem Q58 (D:Ai P C) (G:∀t∈C.eqOk,P.stoodInHeld t=false) {ops:Array Oper} {Q:Exit->Act->World->Prop} {K:St->Option R} {r:R} {M:List Oper}:
  ∀(l:List Oper) (s:St) (a:Act) (w:World),Rel Z s a.tmps w->Io P C ops.toList l s K=some r->
  (∀(L:St) (I:Act) (w':World),K L=some r->Rel Z L I.tmps w'->I.defers=a.defers->wpList P ops Q M I w')->wpList P ops Q (l++M) a w
 |[],s,a,w,N,h,O=>O s a w h N rfl
 |o::l,s,a,w,N,h,O=>by
  simp only[Io]at h;have:=Ye (next:=wpList P ops Q (l++M)) (Q:=Q) D G N h (λpo L I w' U S V=>Q58 D G l L I w' S U (λs2 a2 X Y h2 h3=>O s2 a2 X Y h2 (h3.trans V)));simp only[ax,wpList];split
  ·rename_i T;rw[aa T]at this;exact .inl this
  ·rename_i T;rw[ab T]at this;exact this
def O0 (Z:Base) (b:Nat) (v:Value) (w:World) (h:Gt Z.F w):Base:=⟨λk=>Z.F k\/k=b\/v.ownBlock=some k,w,Z.I0,Z.K0,h.mono λ_ _ _ q=>⟨.inl q,rfl⟩⟩
theorem Q31 {b:Nat} {v:Value} {h:Gt Z.F w} (D:InZ Z):InZ (O0 Z b v w h):=D
theorem Zm7 {b:Nat} {v:Value} {h:Gt Z.F w} {s:St} {tmps:Array Value} {w':World} (D:Rel (O0 Z b v w h) s tmps w') (h':Gt Z.F w'):Rel (O0 Z b v w' h') s tmps w':=by
 obtain⟨ρ,q⟩:=D;exact⟨ρ,q.tl,q.tv,q.wt,q.wb,q.bx,q.bi,q.ro,q.ri,q.br,q.ib,Fr.refl _ _,q.fs,q.i0,q.i1,q.k0⟩
theorem Z9t {B e size n:Nat} {v:Value} {xs:List Value} {w w':World} (h:w.ownsRow B e size v n xs) (hb:∀g,v.ownBlock=some g->w'.heap[g]? =w.heap[g]?):w'.ownsRow B e size v n xs:=by
 refine⟨h.1,?_⟩;rcases h.2 with q|⟨g,cap,cur,D,G,I,L⟩
 ·exact .inl q
 ·exact .inr ⟨g,cap,cur,D,G,by rw[hb g (by rw[D];rfl)];exact I,L⟩
theorem Qhy {B e size n:Nat} {v:Value} {xs:List Value} {w:World} (h:w.ownsRow B e size v n xs) {g:Nat} (D:v.ownBlock=some g):B<=g/\g<w.heap.size:=by
 rcases h.2 with⟨q,_⟩|⟨M,cap,cur,G,I,L,N⟩
 ·rw[q]at D;simp[Value.ownBlock]at D
 ·rw[G]at D;simp[Value.ownBlock]at D;subst D;exact⟨I,(cq.1 L).1⟩
theorem Zua {B b:Nat} {v:Value} {bs:List Value} {w w':World} (h:Bld B b v bs w) (D:w'.heap[b]? =w.heap[b]?) (G:∀g,v.ownBlock=some g->w'.heap[g]? =w.heap[g]?):Bld B b v bs w':=by
 obtain⟨I,⟨p,L,M⟩,N,O⟩:=h;exact⟨I,⟨p,L,by rw[D];exact M⟩,Z9t N G,O⟩
theorem Zq4 {B b:Nat} {v:Value} {bs:List Value} {w:World} (h:Bld B b v bs w):b<w.heap.size:=by
 obtain⟨_,⟨p,_,q⟩,_⟩:=h;exact(cq.1 q).1
structure RG (Z : Base) (B b : Nat) (v : Value) (bs : List Value) (s : St) (tmps : Array Value) (w : World) : Prop where
 bld:Bld B b v bs w
 fr:Fr Z.F Z.w0 w
 hB:B<=w.heap.size
 gt:Gt Z.F w
 rel:Rel (O0 Z b v w gt) s tmps w
variable {B b:Nat} {v:Value} {bs:List Value} {s:St} {tmps:Array Value}
theorem RG.next (h:RG Z B b v bs s tmps w) {G:St} {D:Array Value} {w':World} (I:Rel (O0 Z b v w h.gt) G D w'):RG Z B b v bs G D w':=by
 have hf:Fr (O0 Z b v w h.gt).F w w':=by obtain⟨_,q⟩:=I;exact q.fr
 have L:Gt Z.F w':=h.gt.mono λg cs _ q=>⟨q,hf.block g (.inl q)⟩;exact⟨Zua h.bld (hf.block b (.inr (.inl rfl))) λg e=>hf.block g (.inr (.inr e)),h.fr.trans (hf.mono λ_ q=> .inl q),bj h.hB hf.size,L,Zm7 I L⟩
theorem RG.code (D:Ai P C) (O:∀t∈C.eqOk,P.stoodInHeld t=false) (G:P.follows .mixedOrders=true) (T:InZ Z) {c:Code} {L blk:Nat} {K:Ex->St->Option R} {r:R} {a:Act} (I:SubOK P C c blk)
  (h:RG Z B b v bs s a.tmps w) (U:Bq P C L c blk s K=some r):
  c.wp P (λe S w'=>∃M N,K9 M=e/\K M N=some r/\RG Z B b v bs N S.tmps w'/\S.defers=a.defers) a w:=by
 refine wp_mono (FO D O G (Q31 T) c L blk s a w K I h.rel rfl U) ?_;rintro e S w' ⟨M,N,V,X,Y,q4⟩;exact⟨M,N,V,X,h.next Y,q4⟩
theorem RG.re (h:RG Z B b v bs s tmps w) (D:InZ Z) {sk:Sk} {vars:List AC} (G:sk.okB=true) (I:DC sk s=some vars):RG Z B b v bs (AF sk vars) tmps w:=by
 obtain⟨ρ,q⟩:=h.rel;exact⟨h.bld,h.fr,h.hB,h.gt,⟨ρ,RelE.rebuild q (Q31 (h:=h.gt) D) G I⟩⟩
theorem RG.write {tm:List TV} (h:RG Z B b v bs ⟨tm,[],[]⟩ tmps w) (X:∀k,Z.I0 k->k<B) (U:∀k,Z.F k->k<B) {N:Value} {I:List Value} {w':World} (O:Bld B b N I w') (D:RB b v w w') (Y:Vj w v N):
  RG Z B b N I ⟨tm,[],[]⟩ tmps w':=by
 obtain⟨ρ,q⟩:=h.rel;obtain⟨k1,k2,k3,S,V⟩:=D;have a0:=h.bld.lo;have L:∀k,Z.F k->w'.heap[k]? =w.heap[k]? :=λk D=>by
  have:=U k D;have:=h.hB;exact V k (by omega) (by omega) λe=>by have:=(Qhy h.bld.row e).1;omega
 have G:∀k,ρ.im k->k<w.heap.size/\k≠b/\v.ownBlock≠some k:=λk D=>by
  refine⟨(q.ib k D).1,?_⟩;rcases q.i1 k D with i|i
  ·have:=X k i;exact⟨by omega,λe=>by have:=(Qhy h.bld.row e).1;omega⟩
  ·exact⟨λe=>i (.inr (.inl e)),λe=>i (.inr (.inr e))⟩
 have hg:Gt Z.F w':=h.gt.mono λg cs _ q=>⟨q,L g q⟩;have T:∀(a:AC) (x:Value),CC ρ w a x->CC ρ w' a x:=λa x hx=>CC.mono (ρ:=ρ) (ρ':=ρ) (λ_ q=>q) (λk D=>V k (G k D).1 (G k D).2.1 (G k D).2.2) a x (AC.agree_refl rfl rfl rfl a) hx;refine⟨O,h.fr.trans ⟨k1,k2,k3,S,L⟩,bj h.hB S,hg,⟨ρ,q.tl,λi u hi=>TVR.mono T u _ (q.tv i u hi),q.wt,λk b D=>by simp[Ac]at D,λk b D=>by simp[Ac]at D,λk k' b b' D=>by simp[Ac]at D,λid r M=>by simp[Ac]at M,
  λid id' r r' g M=>by simp[Ac]at M,λk b id r D=>by simp[Ac]at D,λk D=>⟨db (G k D).1 S,λk bo D=>by simp[Ac]at D,λid r M=>by simp[Ac]at M⟩,Fr.refl _ _,?_,q.i0,?_,q.k0⟩⟩
 ·rintro k (D|rfl|D)
  ·have:=U k D;have:=h.hB;omega
  ·exact Zq4 O
  ·exact(Qhy O.row D).2
 ·intro k D;rcases q.i1 k D with i|i
  ·exact .inl i
  ·refine .inr ?_;rintro(hf|rfl|hf)
   ·exact i (.inl hf)
   ·exact(G k D).2.1 rfl
   ·rcases Y k hf with e|e
    ·exact(G k D).2.2 e
    ·have:=(G k D).1;omega
end
end Go.Bm
