/- decimal numerals: the library's function Itoa as a row -/
import Derived.Test.YtnnpdlgenmnekaaGreatDoorBmExt
import Derived.Test.YtnnpdlgenmnekaaGreatDoorSeShelf
import Derived.Test.YtnnpdlgenmnekaaGreatDoorSeBld
set_option linter.unusedVariables false
set_option linter.unusedSimpArgs false
namespace Go.Bm
open Go.Proofs Go.RowKit
theorem RI (w:World) (k:Nat) (os:Array Obj):Below w.heap.size w (Go.Sort.grow (w.drewN k) os):=
 ⟨rfl,rfl,rfl,by show w.heap.size<=(w.heap++os).size;simp,λj A=>by show(w.heap++os)[j]? =_;rw[Array.getElem?_append_left A]⟩
theorem Us {P:Program} {name:String} {k:IntKind} {A:List Int} {g:Nat} {F:Nat->Prop} {w:World} (h1:P.globalNamed name=some g) (h2:I4=some (g,A.map λz=>Value.int k z)) (h:Gt F w):Lib.TabIs P w name k A:=by
 obtain⟨_,t,z,e⟩:=h _ _ h2;unfold Lib.TabIs World.var?;rw[h1];simp only[ak,e]
abbrev Cf:Sk:=⟨[TS.v false [CS.str]],[],[]⟩
theorem SO {P:Program} {f:FuncId} {sig:Sk} {m:List AC->Option (List AC)} {ar:List AC->List (IntKind×Int)} (h1:sig.okB=true)
  (E:∀vars,Ag sig vars=⟨(ar vars).map Ho,[],[]⟩)
  (D:∀vars o,m vars=some o->∀(F:Nat->Prop) (w:World),Gt F w->CallsX P f ((ar vars).map GS).toArray w λe w'=>e= .returned (.string (Ah (nth .vD o 0)))/\Below w.heap.size w w'):
  Av P (f,Aj sig Cf m):=by
 refine⟨FJ (sig:=sig) (osig:=Cf) (m:=m),λargs mem v mem' h=> ?_⟩;obtain⟨aB,aC⟩:=mem;simp only[Aj]at h;obtain⟨J,h⟩:=Ay h;split at h
 ·rename_i vars G;simp only[ai]at h;obtain⟨o,ho,h⟩:=h;have hb:Ag Cf o=⟨[.c (.raw (.string (Ah (nth .vD o 0))))],[],[]⟩:=rfl;rw[hb]at h;simp only[ag,a8]at h;obtain⟨rfl,rfl⟩:=h;intro F w S ρ xs L;have A:=L.rebuild (Fo J) h1 G;rw[E]at A;dsimp only at A;have N:=J4 A;subst N;refine(D vars o ho F w S).mono ?_;rintro e w' ⟨rfl,hb⟩;have O:=A.growIm (im':=ρ.im) hb (λ_ h=>h) (λ_ h=> .inl h);refine⟨.string (Ah (nth .vD o 0)),_,rfl,O.slots rfl (λi v Q=> ?_) (λv G=> ?_)⟩
  ·cases i with
   |zero=>simp at Q;subst Q;exact⟨_,rfl,rfl,rfl⟩
   |succ i=>simp at Q
  ·simp at G;subst G;exact λa E=>by simp at E;subst E;trivial
 ·simp at h
def Md:Sk:={tmps:=[TS.v false [CS.int .i64]],aB:=[],aC:=[]}
def KY:Sk:={tmps:=[TS.v false [CS.str]],aB:=[],aC:=[]}
def AB (n:Int):ByteArray:=⟨(Lib.itoa n).toArray⟩
def Ey (vars:List AC):Option (List AC):=
 bif decide (-9223372036854775808<=Ad (nth .vD vars 0))&&decide (Ad (nth .vD vars 0)<=9223372036854775807)then some [.raw (.string (AB (Ad (nth .vD vars 0))))]else none
theorem S5:Av Tryz.prog (122,Aj Md KY Ey):=by
 refine SO (ar:=λvars=>[(.i64,Ad (nth .vD vars 0))]) rfl (λ_=>rfl) (λvars o ho F w D=> ?_);unfold Ey at ho;generalize Ad (nth .vD vars 0)=n at ho⊢;obtain⟨A,ho⟩:=Ay ho;simp only[af,bm]at A;simp only[ag]at ho;subst ho;refine .inl ⟨DS (by kernel_rfl),?_⟩;refine(Any.strconv_Itoa Tryz.laysM171 n A.1 A.2 w (Us (g:=2) (by kernel_rfl) (by kernel_rfl) D)).mono ?_;rintro e w' ⟨rfl,k,os,rfl⟩;exact⟨rfl,RI w k os⟩
end Go.Bm
