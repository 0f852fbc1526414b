/- the abstract machine -/
import Derived.Test.YtommijghjlikkaaGreatBmTy
import Derived.Shelf.Spec.BitsCarry
set_option linter.unusedVariables false
set_option linter.unusedSimpArgs false
namespace Go.Bm
open Go.RowKit
def Xj (k:IntKind×Int):TV:= .v false [.int k.1 k.2]
def ZA (k:IntKind×Int):Value:= .int k.1 k.2
theorem Z1a {Z:Base} {l:List (IntKind×Int)} {ρ:Env} {xs:List Value} {w:World} (h:RelE Z (l.map Xj) [] [] ρ xs.toArray w):xs=l.map ZA:=by
 apply List.ext_getElem?;intro i;have hl:l.length=xs.length:=by have:=h.tl;simpa using this
 by_cases hi:i<l.length
 ·have hx:i<xs.length:=by omega
  have:=h.tv i (Xj l[i]) (by simp[hi]);obtain⟨a,ha,hc⟩:=this;simp only[List.cons.injEq,and_true]at ha;subst ha;simp only[CC,CP]at hc;have e:xs.toArray.getD i undef=xs[i]:=by simp[Array.getD,hx]
  rw[e]at hc;simp[hi,hx,ZA,hc]
 ·have hx: ¬i<xs.length:=by omega
  rw[dc (by omega),dc (by simp;omega)]
theorem UM {P:Program} {f:FuncId} {sig osig:Sk} {m:List AC->Option (List AC)} {ar:List AC->List (IntKind×Int)} {val:List AC->Value} (h1:sig.okB=true)
  (ha:∀vars,BA sig vars=⟨(ar vars).map Xj,[],[]⟩)
  (hcall:∀vars o,m vars=some o->∀w,CallsX P f ((ar vars).map ZA).toArray w λe w'=>e= .returned (val o)/\w'=w)
  (hval:∀o,∃tv,BA osig o=⟨[tv],[],[]⟩/\(∀ρ w,TVR ρ w tv (val o))/\TV.wf [] [] tv):Al P (f,Ad sig osig m):=by
 refine⟨Qav,λargs mem v mem' h=> ?_⟩;obtain⟨aA,aB⟩:=mem;simp only[Ad]at h;obtain⟨hin,h⟩:=B2 h;split at h
 ·rename_i vars hv;simp only[db]at h;obtain⟨o,ho,h⟩:=h;obtain⟨tv,hb,ht,hwf⟩:=hval o;rw[hb]at h;simp only[av,da]at h;obtain⟨rfl,rfl⟩:=h;intro F w ρ xs hR0;have hR1:=hR0.rebuild (Qjy hin) h1 hv;rw[ha]at hR1;dsimp only at hR1;have hxs:=Z1a hR1;subst hxs;refine(hcall vars o ho w).mono ?_;rintro e w' ⟨rfl,rfl⟩;refine⟨val o,ρ,rfl,⟨rfl,λi v hi=> ?_,λv hv=> ?_,hR1.wb,hR1.bx,hR1.bi,hR1.ro,hR1.ri,hR1.br,hR1.ib,hR1.fr,hR1.fs,hR1.i0,hR1.i1,hR1.k0⟩⟩
  ·cases i with
   |zero=>simp at hi;subst hi;simpa using ht ρ _
   |succ i=>simp at hi
  ·simp at hv;subst hv;exact hwf
 ·simp at h
theorem Zjp (k:IntKind) (o:List AC):∃tv,BA ⟨[TS.v false [CS.int k]],[],[]⟩ o=⟨[tv],[],[]⟩/\(∀ρ w,TVR ρ w tv (.int k (Ag (nth .dead o 0))))/\TV.wf [] [] tv:=
 ⟨_,rfl,λρ w=>⟨_,rfl,rfl⟩,by intro a ha;simp at ha;subst ha;trivial⟩
theorem Q5f (k k':IntKind) (o:List AC):∃tv,BA ⟨[TS.tup [(false,[CS.int k]),(false,[CS.int k'])]],[],[]⟩ o=⟨[tv],[],[]⟩/\
  (∀ρ w,TVR ρ w tv (.tuple #[.int k (Ag (nth .dead o 0)), .int k' (Ag (nth .dead o 1))]))/\TV.wf [] [] tv:=
 ⟨_,rfl,λρ w=>⟨_,rfl,⟨⟨_,rfl,rfl⟩,⟨_,rfl,rfl⟩,trivial⟩⟩,by intro p hp a ha;simp at hp;rcases hp with rfl|rfl<;>(simp at ha;subst ha;trivial)⟩
end Go.Bm
