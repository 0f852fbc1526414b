/- the abstract machine -/
import Derived.Test.YtommijghjlikkaaGreatBmTy
import Derived.Shelf.Spec.BitsCarry
set_option linter.unusedVariables false
set_option linter.unusedSimpArgs false
namespace Go.Bm
open Go.RowKit
def Qr5 (k:IntKind×Int):TV:= .v false [.int k.1 k.2]
def Qhu (k:IntKind×Int):Value:= .int k.1 k.2
theorem Zhp {Z:Base} {l:List (IntKind×Int)} {ρ:Env} {xs:List Value} {w:World} (h:RelE Z (l.map Qr5) [] [] ρ xs.toArray w):xs=l.map Qhu:=by
 apply iu;intro i;have J:l.length=xs.length:=by have:=h.tl;simpa using this
 by_cases hi:i<l.length
 ·have E:i<xs.length:=by omega
  have:=h.tv i (Qr5 l[i]) (by simp[hi]);obtain⟨a,I,G⟩:=this;simp only[jn,and_true]at I;subst I;simp only[CC,CP]at G;have e:xs.toArray.getD i undef=xs[i]:=by simp[Array.getD,E]
  rw[e]at G;simp[hi,E,Qhu,G]
 ·have E: ¬i<xs.length:=by omega
  rw[dm (by omega),dm (by simp;omega)]
theorem Qh6 {P:Program} {f:FuncId} {sig G:Sk} {m:List AC->Option (List AC)} {ar:List AC->List (IntKind×Int)} {val:List AC->Value} (U:sig.okB=true)
  (V:∀vars,BH sig vars=⟨(ar vars).map Qr5,[],[]⟩)
  (I:∀vars o,m vars=some o->∀w,CallsX P f ((ar vars).map Qhu).toArray w λe w'=>e= .returned (val o)/\w'=w)
  (J:∀o,∃tv,BH G o=⟨[tv],[],[]⟩/\(∀ρ w,TVR ρ w tv (val o))/\TV.wf [] [] tv):Am P (f,Ad sig G m):=by
 refine⟨Qj7,λargs mem v mem' h=> ?_⟩;obtain⟨aB,aC⟩:=mem;simp only[Ad]at h;obtain⟨N,h⟩:=Cl h;split at h
 ·rename_i vars M;simp only[dl]at h;obtain⟨o,X,h⟩:=h;obtain⟨tv,hb,Y,O⟩:=J o;rw[hb]at h;simp only[ap,dk]at h;obtain⟨rfl,rfl⟩:=h;intro F w ρ xs S;have E:=S.rebuild (Qaf N) U M;rw[V]at E;dsimp only at E;have T:=Zhp E;subst T;refine(I vars o X w).mono ?_;rintro e w' ⟨rfl,rfl⟩;refine⟨val o,ρ,rfl,⟨rfl,λi v hi=> ?_,λv M=> ?_,E.wb,E.bx,E.bi,E.ro,E.ri,E.br,E.ib,E.fr,E.fs,E.i0,E.i1,E.k0⟩⟩
  ·cases i with
   |zero=>simp at hi;subst hi;simpa using Y ρ _
   |succ i=>simp at hi
  ·simp at M;subst M;exact O
 ·simp at h
theorem Z9i (k:IntKind) (o:List AC):∃tv,BH ⟨[TS.v false [CS.int k]],[],[]⟩ o=⟨[tv],[],[]⟩/\(∀ρ w,TVR ρ w tv (.int k (Ah (nth .dead o 0))))/\TV.wf [] [] tv:=
 ⟨_,rfl,λρ w=>⟨_,rfl,rfl⟩,by intro a E;simp at E;subst E;trivial⟩
theorem Qve (k k':IntKind) (o:List AC):∃tv,BH ⟨[TS.tup [(false,[CS.int k]),(false,[CS.int k'])]],[],[]⟩ o=⟨[tv],[],[]⟩/\
  (∀ρ w,TVR ρ w tv (.tuple #[.int k (Ah (nth .dead o 0)), .int k' (Ah (nth .dead o 1))]))/\TV.wf [] [] tv:=
 ⟨_,rfl,λρ w=>⟨_,rfl,⟨⟨_,rfl,rfl⟩,⟨_,rfl,rfl⟩,trivial⟩⟩,by intro p E a G;simp at E;rcases E with rfl|rfl<;>(simp at G;subst G;trivial)⟩
end Go.Bm
