/- the abstract machine -/
import Derived.Test.YtnnpdlgenmnekaaGreatDoorBmKeep
import Derived.Shelf.Spec.BitsCarry
set_option linter.unusedVariables false
set_option linter.unusedSimpArgs false
namespace Go.Bm
open Go.RowKit
def UX (k:IntKind×Int):TV:= .v false [.int k.1 k.2]
def TD (k:IntKind×Int):Value:= .int k.1 k.2
theorem Qth {Z:Base} {l:List (IntKind×Int)} {ρ:Env} {xs:List Value} {w:World} (h:RelE Z (l.map UX) [] [] ρ xs.toArray w):xs=l.map TD:=by
 apply ig;intro i;have M:l.length=xs.length:=by have:=h.tl;simpa using this
 by_cases I:i<l.length
 ·have D:i<xs.length:=by omega
  have:=h.tv i (UX l[i]) (by simp[I]);obtain⟨a,L,G⟩:=this;simp only[d7,jd]at L;subst L;simp only[CC,CP]at G;have e:xs.toArray.getD i undef=xs[i]:=by simp[Array.getD,D]
  rw[e]at G;simp[I,D,TD,G]
 ·have D: ¬i<xs.length:=by omega
  rw[db (by omega),db (by simp;omega)]
theorem Qf5 {P:Program} {f:FuncId} {sig G:Sk} {m:List AC->Option (List AC)} {ar:List AC->List (IntKind×Int)} {val:List AC->Value} (V:sig.okB=true)
  (X:∀vars,AA sig vars=⟨(ar vars).map UX,[],[]⟩)
  (I:∀vars o,m vars=some o->∀w,CallsX P f ((ar vars).map TD).toArray w λe w'=>e= .returned (val o)/\w'=w)
  (L:∀o,∃tv,AA G o=⟨[tv],[],[]⟩/\(∀ρ w,TVR ρ w tv (val o))/\TV.wf [] [] tv):Al P (f,Ac sig G m):=by
 refine⟨QT,λargs mem v mem' h=> ?_⟩;obtain⟨aB,aC⟩:=mem;simp only[Ac]at h;obtain⟨N,h⟩:=Bo h;split at h
 ·rename_i vars M;simp only[bf]at h;obtain⟨o,Y,h⟩:=h;obtain⟨tv,hb,ht,O⟩:=L o;rw[hb]at h;simp only[am,cd]at h;obtain⟨rfl,rfl⟩:=h;intro F w hG ρ xs S;have D:=S.rebuild (Nn N) V M;rw[X]at D;dsimp only at D;have T:=Qth D;subst T;refine(I vars o Y w).mono ?_;rintro e w' ⟨rfl,rfl⟩;refine⟨val o,ρ,rfl,⟨rfl,λi v U=> ?_,λv M=> ?_,D.wb,D.bx,D.bi,D.ro,D.ri,D.br,D.ib,D.fr,D.fs,D.i0,D.i1,D.k0⟩⟩
  ·cases i with
   |zero=>simp at U;subst U;simpa using ht ρ _
   |succ i=>simp at U
  ·simp at M;subst M;exact O
 ·simp at h
theorem Z95 (k:IntKind) (o:List AC):∃tv,AA ⟨[TS.v false [CS.int k]],[],[]⟩ o=⟨[tv],[],[]⟩/\(∀ρ w,TVR ρ w tv (.int k (Af (nth .vD o 0))))/\TV.wf [] [] tv:=
 ⟨_,rfl,λρ w=>⟨_,rfl,rfl⟩,by intro a D;simp at D;subst D;trivial⟩
theorem Qtx (k k':IntKind) (o:List AC):∃tv,AA ⟨[TS.tup [(false,[CS.int k]),(false,[CS.int k'])]],[],[]⟩ o=⟨[tv],[],[]⟩/\
  (∀ρ w,TVR ρ w tv (.tuple #[.int k (Af (nth .vD o 0)), .int k' (Af (nth .vD o 1))]))/\TV.wf [] [] tv:=
 ⟨_,rfl,λρ w=>⟨_,rfl,⟨⟨_,rfl,rfl⟩,⟨_,rfl,rfl⟩,trivial⟩⟩,by intro p D a G;simp at D;rcases D with rfl|rfl<;>(simp at G;subst G;trivial)⟩
end Go.Bm
