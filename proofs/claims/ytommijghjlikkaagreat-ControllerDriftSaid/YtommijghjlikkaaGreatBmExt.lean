/- the abstract machine -/
import Derived.Test.YtommijghjlikkaaGreatBmTy
import Derived.Shelf.Spec.BitsCarry
set_option linter.unusedVariables false
set_option linter.unusedSimpArgs false
namespace Go.Bm
open Go.RowKit
def XF (k:IntKind×Int):TV:= .v false [.int k.1 k.2]
def Qmt (k:IntKind×Int):Value:= .int k.1 k.2
theorem Z25 {Z:Base} {l:List (IntKind×Int)} {ρ:Env} {xs:List Value} {w:World} (h:RelE Z (l.map XF) [] [] ρ xs.toArray w):xs=l.map Qmt:=by
 apply List.ext_getElem?;intro i;have hl:l.length=xs.length:=by have:=h.tl;simpa using this
 by_cases hi:i<l.length
 ·have hx:i<xs.length:=by omega
  have:=h.tv i (XF l[i]) (by simp[hi]);obtain⟨a,ha,hc⟩:=this;simp only[List.cons.injEq,and_true]at ha;subst ha;simp only[CC,CP]at hc;have e:xs.toArray.getD i undef=xs[i]:=by simp[Array.getD,hx]
  rw[e]at hc;simp[hi,hx,Qmt,hc]
 ·have hx: ¬i<xs.length:=by omega
  rw[cv (by omega),cv (by simp;omega)]
theorem Qax {P:Program} {f:FuncId} {sig osig:Sk} {m:List AC->Option (List AC)} {ar:List AC->List (IntKind×Int)} {val:List AC->Value} (h1:sig.okB=true)
  (ha:∀vars,BA sig vars=⟨(ar vars).map XF,[],[]⟩)
  (hcall:∀vars o,m vars=some o->∀w,CallsX P f ((ar vars).map Qmt).toArray w λe w'=>e= .returned (val o)/\w'=w)
  (hval:∀o,∃tv,BA osig o=⟨[tv],[],[]⟩/\(∀ρ w,TVR ρ w tv (val o))/\TV.wf [] [] tv):Al P (f,Ad sig osig m):=by
 refine⟨Qhb,λargs mem v mem' h=> ?_⟩;obtain⟨aB,aC⟩:=mem;simp only[Ad]at h;obtain⟨hin,h⟩:=BY h;split at h
 ·rename_i vars hv;simp only[cq]at h;obtain⟨o,ho,h⟩:=h;obtain⟨tv,hb,ht,hwf⟩:=hval o;rw[hb]at h;simp only[ap,cm]at h;obtain⟨rfl,rfl⟩:=h;intro F w ρ xs hR0;have hR1:=hR0.rebuild (Qh0 hin) h1 hv;rw[ha]at hR1;dsimp only at hR1;have hxs:=Z25 hR1;subst hxs;refine(hcall vars o ho w).mono ?_;rintro e w' ⟨rfl,rfl⟩;refine⟨val o,ρ,rfl,⟨rfl,λi v hi=> ?_,λv hv=> ?_,hR1.wb,hR1.bx,hR1.bi,hR1.ro,hR1.ri,hR1.br,hR1.ib,hR1.fr,hR1.fs,hR1.i0,hR1.i1,hR1.k0⟩⟩
  ·cases i with
   |zero=>simp at hi;subst hi;simpa using ht ρ _
   |succ i=>simp at hi
  ·simp at hv;subst hv;exact hwf
 ·simp at h
theorem Zfd (k:IntKind) (o:List AC):∃tv,BA ⟨[TS.v false [CS.int k]],[],[]⟩ o=⟨[tv],[],[]⟩/\(∀ρ w,TVR ρ w tv (.int k (Af (nth .dead o 0))))/\TV.wf [] [] tv:=
 ⟨_,rfl,λρ w=>⟨_,rfl,rfl⟩,by intro a ha;simp at ha;subst ha;trivial⟩
theorem Qvz (k k':IntKind) (o:List AC):∃tv,BA ⟨[TS.tup [(false,[CS.int k]),(false,[CS.int k'])]],[],[]⟩ o=⟨[tv],[],[]⟩/\
  (∀ρ w,TVR ρ w tv (.tuple #[.int k (Af (nth .dead o 0)), .int k' (Af (nth .dead o 1))]))/\TV.wf [] [] tv:=
 ⟨_,rfl,λρ w=>⟨_,rfl,⟨⟨_,rfl,rfl⟩,⟨_,rfl,rfl⟩,trivial⟩⟩,by intro p hp a ha;simp at hp;rcases hp with rfl|rfl<;>(simp at ha;subst ha;trivial)⟩
end Go.Bm
