/- the abstract machine -/
import Derived.Test.YtnnpdlgenmnekaaGreatBmRd
import Derived.Shelf.Spec.BitsCarry
set_option linter.unusedVariables false
set_option linter.unusedSimpArgs false
namespace Go.Bm
open Go.RowKit
def Qjt (k:IntKind×Int):TV:= .v false [.int k.1 k.2]
def Qaw (k:IntKind×Int):Value:= .int k.1 k.2
theorem Q51 {Z:Base} {l:List (IntKind×Int)} {ρ:Env} {xs:List Value} {w:World} (h:RelE Z (l.map Qjt) [] [] ρ xs.toArray w):xs=l.map Qaw:=by
 apply f5;intro i;have J:l.length=xs.length:=by have:=h.tl;simpa using this
 by_cases G:i<l.length
 ·have D:i<xs.length:=by omega
  have:=h.tv i (Qjt l[i]) (by simp[G]);obtain⟨a,I,E⟩:=this;simp only[fh,i6]at I;subst I;simp only[CC,CP]at E;have e:xs.toArray.getD i undef=xs[i]:=by simp[Array.getD,D]
  rw[e]at E;simp[G,D,Qaw,E]
 ·have D: ¬i<xs.length:=by omega
  rw[db (by omega),db (by simp;omega)]
theorem Qa9 {P:Program} {f:FuncId} {sig E:Sk} {m:List AC->Option (List AC)} {ar:List AC->List (IntKind×Int)} {val:List AC->Value} (T:sig.okB=true)
  (U:∀vars,Ce sig vars=⟨(ar vars).map Qjt,[],[]⟩)
  (G:∀vars o,m vars=some o->∀w,CallsX P f ((ar vars).map Qaw).toArray w λe w'=>e= .returned (val o)/\w'=w)
  (I:∀o,∃tv,Ce E o=⟨[tv],[],[]⟩/\(∀ρ w,TVR ρ w tv (val o))/\TV.wf [] [] tv):Ak P (f,Ad sig E m):=by
 refine⟨Qc3,λargs mem v mem' h=> ?_⟩;obtain⟨aB,aC⟩:=mem;simp only[Ad]at h;obtain⟨L,h⟩:=BI h;split at h
 ·rename_i vars J;simp only[cr]at h;obtain⟨o,V,h⟩:=h;obtain⟨tv,hb,X,M⟩:=I o;rw[hb]at h;simp only[ap,bt]at h;obtain⟨rfl,rfl⟩:=h;intro F w Y ρ xs N;have D:=N.rebuild (Qg L) T J;rw[U]at D;dsimp only at D;have O:=Q51 D;subst O;refine(G vars o V w).mono ?_;rintro e w' ⟨rfl,rfl⟩;refine⟨val o,ρ,rfl,⟨rfl,λi v S=> ?_,λv J=> ?_,D.wb,D.bx,D.bi,D.ro,D.ri,D.br,D.ib,D.fr,D.fs,D.i0,D.i1,D.k0⟩⟩
  ·cases i with
   |zero=>simp at S;subst S;simpa using X ρ _
   |succ i=>simp at S
  ·simp at J;subst J;exact M
 ·simp at h
theorem Zuq (k:IntKind) (o:List AC):∃tv,Ce ⟨[TS.v false [CS.int k]],[],[]⟩ o=⟨[tv],[],[]⟩/\(∀ρ w,TVR ρ w tv (.int k (Ah (nth .dead o 0))))/\TV.wf [] [] tv:=
 ⟨_,rfl,λρ w=>⟨_,rfl,rfl⟩,by intro a D;simp at D;subst D;trivial⟩
theorem Qmp (k k':IntKind) (o:List AC):∃tv,Ce ⟨[TS.tup [(false,[CS.int k]),(false,[CS.int k'])]],[],[]⟩ o=⟨[tv],[],[]⟩/\
  (∀ρ w,TVR ρ w tv (.tuple #[.int k (Ah (nth .dead o 0)), .int k' (Ah (nth .dead o 1))]))/\TV.wf [] [] tv:=
 ⟨_,rfl,λρ w=>⟨_,rfl,⟨⟨_,rfl,rfl⟩,⟨_,rfl,rfl⟩,trivial⟩⟩,by intro p D a E;simp at D;rcases D with rfl|rfl<;>(simp at E;subst E;trivial)⟩
end Go.Bm
