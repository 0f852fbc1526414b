/- the abstract machine -/
import Derived.Test.YtnnpdlgenmnekaaGreatDoorBmTy
import Derived.Shelf.Spec.BitsCarry
set_option linter.unusedVariables false
set_option linter.unusedSimpArgs false
namespace Go.Bm
open Go.RowKit
def VG (k:IntKind×Int):TV:= .v false [.int k.1 k.2]
def Uq (k:IntKind×Int):Value:= .int k.1 k.2
theorem Qxp {Z:Base} {l:List (IntKind×Int)} {ρ:Env} {xs:List Value} {w:World} (h:RelE Z (l.map VG) [] [] ρ xs.toArray w):xs=l.map Uq:=by
 apply gq;intro i;have G:l.length=xs.length:=by have:=h.tl;simpa using this
 by_cases I:i<l.length
 ·have L:i<xs.length:=by omega
  have:=h.tv i (VG l[i]) (by grind);obtain⟨a,D,M⟩:=this;simp only[d6,iz]at D;subst D;simp_all [CC,CP,Uq]
 grind
theorem Qjt {P:Program} {f:FuncId} {sig G:Sk} {m:List AC->Option (List AC)} {ar:List AC->List (IntKind×Int)} {val:List AC->Value} (T:sig.okB=true)
  (U:∀vars,AF sig vars=⟨(ar vars).map VG,[],[]⟩)
  (I:∀vars o,m vars=some o->∀w,CallsX P f ((ar vars).map Uq).toArray w λe w'=>e= .returned (val o)/\w'=w)
  (L:∀o,∃tv,AF G o=⟨[tv],[],[]⟩/\(∀ρ w,TVR ρ w tv (val o))/\TV.wf [] [] tv):Ak P (f,Ab sig G m):=by
 refine⟨Rx,λargs mem v mem' h=> ?_⟩;obtain⟨aB,aC⟩:=mem;simp only[Ab]at h;obtain⟨M,h⟩:=BC h;split at h
 ·rename_i vars S;simp only[bm]at h;obtain⟨o,V,h⟩:=h;obtain⟨tv,hb,Y,X⟩:=L o;rw[hb]at h;simp only[an,df]at h;obtain⟨rfl,rfl⟩:=h;intro F w hG ρ xs N;have D:=N.rebuild (NR M) T S;rw[U]at D;dsimp only at D;have O:=Qxp D;subst O;refine(I vars o V w).mono ?_;rintro e w' ⟨rfl,rfl⟩;refine⟨val o,ρ,rfl,⟨rfl,λi v hi=> ?_,λv S=> ?_,D.wb,D.bx,D.bi,D.ro,D.ri,D.br,D.ib,D.fr,D.fs,D.i0,D.i1,D.k0⟩⟩
  ·cases i with
   |zero=>simp_all
   |succ i=>grind
  grind
 grind
theorem Yi7 (k:IntKind) (o:List AC):∃tv,AF ⟨[TS.v false [CS.int k]],[],[]⟩ o=⟨[tv],[],[]⟩/\(∀ρ w,TVR ρ w tv (.int k (Ah (nth .vD o 0))))/\TV.wf [] [] tv:=
 ⟨_,rfl,λρ w=>⟨_,rfl,rfl⟩,by intro a D;simp at D;subst D;trivial⟩
theorem Qya (k k':IntKind) (o:List AC):∃tv,AF ⟨[TS.tup [(false,[CS.int k]),(false,[CS.int k'])]],[],[]⟩ o=⟨[tv],[],[]⟩/\
  (∀ρ w,TVR ρ w tv (.tuple #[.int k (Ah (nth .vD o 0)), .int k' (Ah (nth .vD o 1))]))/\TV.wf [] [] tv:=
 ⟨_,rfl,λρ w=>⟨_,rfl,⟨⟨_,rfl,rfl⟩,⟨_,rfl,rfl⟩,trivial⟩⟩,by intro p D a G;simp at D;rcases D with rfl|rfl<;>(simp at G;subst G;trivial)⟩
end Go.Bm
