/- the abstract machine -/
import Derived.Test.YtnnpdlgenmnekaaGreatDoorBmTy
import Derived.Shelf.Spec.BitsCarry
set_option linter.unusedVariables false
set_option linter.unusedSimpArgs false
namespace Go.Bm
open Go.RowKit
def Ho (k:IntKind×Int):TV:= .v false [.int k.1 k.2]
def GS (k:IntKind×Int):Value:= .int k.1 k.2
theorem J4 {Z:Base} {l:List (IntKind×Int)} {ρ:Env} {xs:List Value} {w:World} (h:RelE Z (l.map Ho) [] [] ρ xs.toArray w):xs=l.map GS:=by
 apply cg;intro i;have D:l.length=xs.length:=by have:=h.tl;simpa using this
 by_cases E:i<l.length
 ·have G:i<xs.length:=by omega
  have:=h.tv i (Ho l[i]) (by grind);obtain⟨a,A,J⟩:=this;simp only[a9,cy]at A;subst A;simp_all [CC,CP,GS]
 grind
theorem IK {P:Program} {f:FuncId} {sig D:Sk} {m:List AC->Option (List AC)} {ar:List AC->List (IntKind×Int)} {val:List AC->Value} (h1:sig.okB=true)
  (Q:∀vars,Ag sig vars=⟨(ar vars).map Ho,[],[]⟩)
  (E:∀vars o,m vars=some o->∀w,CallsX P f ((ar vars).map GS).toArray w λe w'=>e= .returned (val o)/\w'=w)
  (G:∀o,∃tv,Ag D o=⟨[tv],[],[]⟩/\(∀ρ w,TVR ρ w tv (val o))/\TV.wf [] [] tv):Av P (f,Aj sig D m):=by
 refine⟨FJ,λargs mem v mem' h=> ?_⟩;obtain⟨aB,aC⟩:=mem;simp only[Aj]at h;obtain⟨J,h⟩:=Ay h;split at h
 ·rename_i vars O;simp only[ai]at h;obtain⟨o,ho,h⟩:=h;obtain⟨tv,hb,T,S⟩:=G o;rw[hb]at h;simp only[ag,a8]at h;obtain⟨rfl,rfl⟩:=h;intro F w U ρ xs L;have A:=L.rebuild (Fo J) h1 O;rw[Q]at A;dsimp only at A;have N:=J4 A;subst N;refine(E vars o ho w).mono ?_;rintro e w' ⟨rfl,rfl⟩;refine⟨val o,ρ,rfl,⟨rfl,λi v V=> ?_,λv O=> ?_,A.wb,A.bx,A.bi,A.ro,A.ri,A.br,A.ib,A.fr,A.fs,A.i0,A.i1,A.k0⟩⟩
  ·cases i with
   |zero=>simp_all
   |succ i=>grind
  grind
 grind
theorem Uj (k:IntKind) (o:List AC):∃tv,Ag ⟨[TS.v false [CS.int k]],[],[]⟩ o=⟨[tv],[],[]⟩/\(∀ρ w,TVR ρ w tv (.int k (Ad (nth .vD o 0))))/\TV.wf [] [] tv:=
 ⟨_,rfl,λρ w=>⟨_,rfl,rfl⟩,by intro a A;simp at A;subst A;trivial⟩
theorem Kb (k k':IntKind) (o:List AC):∃tv,Ag ⟨[TS.tup [(false,[CS.int k]),(false,[CS.int k'])]],[],[]⟩ o=⟨[tv],[],[]⟩/\
  (∀ρ w,TVR ρ w tv (.tuple #[.int k (Ad (nth .vD o 0)), .int k' (Ad (nth .vD o 1))]))/\TV.wf [] [] tv:=
 ⟨_,rfl,λρ w=>⟨_,rfl,⟨⟨_,rfl,rfl⟩,⟨_,rfl,rfl⟩,trivial⟩⟩,by intro p A a D;simp at A;rcases A with rfl|rfl<;>(simp at D;subst D;trivial)⟩
end Go.Bm
