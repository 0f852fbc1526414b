/- the abstract machine -/
import Derived.Test.YtommijghjlikkaaGreatBmTy
import Derived.Shelf.Spec.BitsCarry
set_option linter.unusedVariables false
set_option linter.unusedSimpArgs false
namespace Go.Bm
open Go.RowKit
def Qtd (k:IntKind×Int):TV:= .v false [.int k.1 k.2]
def Qif (k:IntKind×Int):Value:= .int k.1 k.2
theorem Zjl {Z:Base} {l:List (IntKind×Int)} {ρ:Env} {xs:List Value} {w:World} (h:RelE Z (l.map Qtd) [] [] ρ xs.toArray w):xs=l.map Qif:=by
 apply i8;intro i;have J:l.length=xs.length:=by have:=h.tl;simpa using this
 by_cases G:i<l.length
 ·have D:i<xs.length:=by omega
  have:=h.tv i (Qtd l[i]) (by simp[G]);obtain⟨a,I,E⟩:=this;simp only[ju,and_true]at I;subst I;simp only[CC,CP]at E;have e:xs.toArray.getD i undef=xs[i]:=by simp[Array.getD,D]
  rw[e]at E;simp[G,D,Qif,E]
 ·have D: ¬i<xs.length:=by omega
  rw[df (by omega),df (by simp;omega)]
theorem Qir {P:Program} {f:FuncId} {sig E:Sk} {m:List AC->Option (List AC)} {ar:List AC->List (IntKind×Int)} {val:List AC->Value} (T:sig.okB=true)
  (U:∀vars,BL sig vars=⟨(ar vars).map Qtd,[],[]⟩)
  (G:∀vars o,m vars=some o->∀w,CallsX P f ((ar vars).map Qif).toArray w λe w'=>e= .returned (val o)/\w'=w)
  (I:∀o,∃tv,BL E o=⟨[tv],[],[]⟩/\(∀ρ w,TVR ρ w tv (val o))/\TV.wf [] [] tv):An P (f,Ad sig E m):=by
 refine⟨Qks,λargs mem v mem' h=> ?_⟩;obtain⟨aB,aC⟩:=mem;simp only[Ad]at h;obtain⟨L,h⟩:=Ck h;split at h
 ·rename_i vars J;simp only[de]at h;obtain⟨o,V,h⟩:=h;obtain⟨tv,hb,X,M⟩:=I o;rw[hb]at h;simp only[av,dc]at h;obtain⟨rfl,rfl⟩:=h;intro F w ρ xs N;have D:=N.rebuild (Qas L) T J;rw[U]at D;dsimp only at D;have O:=Zjl D;subst O;refine(G vars o V w).mono ?_;rintro e w' ⟨rfl,rfl⟩;refine⟨val o,ρ,rfl,⟨rfl,λi v S=> ?_,λv J=> ?_,D.wb,D.bx,D.bi,D.ro,D.ri,D.br,D.ib,D.fr,D.fs,D.i0,D.i1,D.k0⟩⟩
  ·cases i with
   |zero=>simp at S;subst S;simpa using X ρ _
   |succ i=>simp at S
  ·simp at J;subst J;exact M
 ·simp at h
theorem Ybf (k:IntKind) (o:List AC):∃tv,BL ⟨[TS.v false [CS.int k]],[],[]⟩ o=⟨[tv],[],[]⟩/\(∀ρ w,TVR ρ w tv (.int k (Af (nth .vD o 0))))/\TV.wf [] [] tv:=
 ⟨_,rfl,λρ w=>⟨_,rfl,rfl⟩,by intro a D;simp at D;subst D;trivial⟩
theorem Qwj (k k':IntKind) (o:List AC):∃tv,BL ⟨[TS.tup [(false,[CS.int k]),(false,[CS.int k'])]],[],[]⟩ o=⟨[tv],[],[]⟩/\
  (∀ρ w,TVR ρ w tv (.tuple #[.int k (Af (nth .vD o 0)), .int k' (Af (nth .vD o 1))]))/\TV.wf [] [] tv:=
 ⟨_,rfl,λρ w=>⟨_,rfl,⟨⟨_,rfl,rfl⟩,⟨_,rfl,rfl⟩,trivial⟩⟩,by intro p D a E;simp at D;rcases D with rfl|rfl<;>(simp at E;subst E;trivial)⟩
end Go.Bm
