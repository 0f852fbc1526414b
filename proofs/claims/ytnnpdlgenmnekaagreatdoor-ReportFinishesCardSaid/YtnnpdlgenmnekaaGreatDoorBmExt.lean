/- the abstract machine -/
import Derived.Test.YtnnpdlgenmnekaaGreatDoorBmTy
import Derived.Shelf.Spec.BitsCarry
set_option linter.unusedVariables false
set_option linter.unusedSimpArgs false
namespace Go.Bm
open Go.RowKit
def U4 (k:IntKind×Int):TV:= .v false [.int k.1 k.2]
def TG (k:IntKind×Int):Value:= .int k.1 k.2
theorem Qrb {Z:Base} {l:List (IntKind×Int)} {ρ:Env} {xs:List Value} {w:World} (h:RelE Z (l.map U4) [] [] ρ xs.toArray w):xs=l.map TG:=by
 apply iq;intro i;have G:l.length=xs.length:=by have:=h.tl;simpa using this
 by_cases I:i<l.length
 ·have L:i<xs.length:=by omega
  have:=h.tv i (U4 l[i]) (by grind);obtain⟨a,D,M⟩:=this;simp only[fd,jp]at D;subst D;simp_all [CC,CP,TG]
 grind
theorem Qff {P:Program} {f:FuncId} {sig G:Sk} {m:List AC->Option (List AC)} {ar:List AC->List (IntKind×Int)} {val:List AC->Value} (U:sig.okB=true)
  (V:∀vars,AH sig vars=⟨(ar vars).map U4,[],[]⟩)
  (I:∀vars o,m vars=some o->∀w,CallsX P f ((ar vars).map TG).toArray w λe w'=>e= .returned (val o)/\w'=w)
  (L:∀o,∃tv,AH G o=⟨[tv],[],[]⟩/\(∀ρ w,TVR ρ w tv (val o))/\TV.wf [] [] tv):An P (f,Ac sig G m):=by
 refine⟨QV,λargs mem v mem' h=> ?_⟩;obtain⟨aB,aC⟩:=mem;simp only[Ac]at h;obtain⟨M,h⟩:=BO h;split at h
 ·rename_i vars T;simp only[bn]at h;obtain⟨o,X,h⟩:=h;obtain⟨tv,hb,ht,Y⟩:=L o;rw[hb]at h;simp only[ap,dq]at h;obtain⟨rfl,rfl⟩:=h;intro F w hG ρ xs N;have D:=N.rebuild (NE M) U T;rw[V]at D;dsimp only at D;have O:=Qrb D;subst O;refine(I vars o X w).mono ?_;rintro e w' ⟨rfl,rfl⟩;refine⟨val o,ρ,rfl,⟨rfl,λi v hi=> ?_,λv T=> ?_,D.wb,D.bx,D.bi,D.ro,D.ri,D.br,D.ib,D.fr,D.fs,D.i0,D.i1,D.k0⟩⟩
  ·cases i with
   |zero=>simp_all
   |succ i=>grind
  grind
 grind
theorem Z8y (k:IntKind) (o:List AC):∃tv,AH ⟨[TS.v false [CS.int k]],[],[]⟩ o=⟨[tv],[],[]⟩/\(∀ρ w,TVR ρ w tv (.int k (Ag (nth .vD o 0))))/\TV.wf [] [] tv:=
 ⟨_,rfl,λρ w=>⟨_,rfl,rfl⟩,by intro a D;simp at D;subst D;trivial⟩
theorem Qrt (k k':IntKind) (o:List AC):∃tv,AH ⟨[TS.tup [(false,[CS.int k]),(false,[CS.int k'])]],[],[]⟩ o=⟨[tv],[],[]⟩/\
  (∀ρ w,TVR ρ w tv (.tuple #[.int k (Ag (nth .vD o 0)), .int k' (Ag (nth .vD o 1))]))/\TV.wf [] [] tv:=
 ⟨_,rfl,λρ w=>⟨_,rfl,⟨⟨_,rfl,rfl⟩,⟨_,rfl,rfl⟩,trivial⟩⟩,by intro p D a G;simp at D;rcases D with rfl|rfl<;>(simp at G;subst G;trivial)⟩
end Go.Bm
