/- decimal numerals: the library's function Itoa as a row -/
import Derived.Test.YtnnpdlgenmnekaaGreatDoorBmExt
import Derived.Test.YtnnpdlgenmnekaaGreatDoorSeShelf
import Derived.Test.YtnnpdlgenmnekaaGreatDoorSeBld
set_option linter.unusedVariables false
set_option linter.unusedSimpArgs false
namespace Go.Bm
open Go.Proofs Go.RowKit
theorem Zwz (w:World) (k:Nat) (os:Array Obj):Below w.heap.size w (Go.Sort.grow (w.drewN k) os):=
 ⟨rfl,rfl,rfl,by show w.heap.size<=(w.heap++os).size;simp,λj D=>by show(w.heap++os)[j]? =_;rw[Array.getElem?_append_left D]⟩
theorem Yap {P:Program} {name:String} {k:IntKind} {D:List Int} {g:Nat} {F:Nat->Prop} {w:World} (G:P.globalNamed name=some g) (I:Qjh=some (g,D.map λz=>Value.int k z)) (h:Gt F w):Lib.TabIs P w name k D:=by
 obtain⟨_,t,z,e⟩:=h _ _ I;unfold Lib.TabIs World.var?;rw[G];simp only[af,e]
abbrev Gn:Sk:=⟨[TS.v false [CS.str]],[],[]⟩
theorem Z03 {P:Program} {f:FuncId} {sig:Sk} {m:List AC->Option (List AC)} {ar:List AC->List (IntKind×Int)} (U:sig.okB=true)
  (I:∀vars,AA sig vars=⟨(ar vars).map UX,[],[]⟩)
  (G:∀vars o,m vars=some o->∀(F:Nat->Prop) (w:World),Gt F w->CallsX P f ((ar vars).map TD).toArray w λe w'=>e= .returned (.string (A7 (nth .vD o 0)))/\Below w.heap.size w w'):
  Al P (f,Ac sig Gn m):=by
 refine⟨QT (sig:=sig) (osig:=Gn) (m:=m),λargs mem v mem' h=> ?_⟩;obtain⟨aB,aC⟩:=mem;simp only[Ac]at h;obtain⟨M,h⟩:=Bo h;split at h
 ·rename_i vars L;simp only[bf]at h;obtain⟨o,V,h⟩:=h;have hb:AA Gn o=⟨[.c (.raw (.string (A7 (nth .vD o 0))))],[],[]⟩:=rfl;rw[hb]at h;simp only[am,cd]at h;obtain⟨rfl,rfl⟩:=h;intro F w X ρ xs N;have D:=N.rebuild (Nn M) U L;rw[I]at D;dsimp only at D;have O:=Qth D;subst O;refine(G vars o V F w X).mono ?_;rintro e w' ⟨rfl,hb⟩;have S:=D.growIm (im':=ρ.im) hb (λ_ h=>h) (λ_ h=> .inl h);refine⟨.string (A7 (nth .vD o 0)),_,rfl,S.slots rfl (λi v T=> ?_) (λv L=> ?_)⟩
  ·cases i with
   |zero=>simp at T;subst T;exact⟨_,rfl,rfl,rfl⟩
   |succ i=>simp at T
  ·simp at L;subst L;exact λa I=>by simp at I;subst I;trivial
 ·simp at h
def Q2w:Sk:={tmps:=[TS.v false [CS.int .i64]],aB:=[],aC:=[]}
def Qw8:Sk:={tmps:=[TS.v false [CS.str]],aB:=[],aC:=[]}
def JX (n:Int):ByteArray:=⟨(Lib.itoa n).toArray⟩
def LN (vars:List AC):Option (List AC):=
 bif decide (-9223372036854775808<=Af (nth .vD vars 0))&&decide (Af (nth .vD vars 0)<=9223372036854775807)then some [.raw (.string (JX (Af (nth .vD vars 0))))]else none
theorem Z18:Al Tryz.prog (122,Ac Q2w Qw8 LN):=by
 refine Z03 (ar:=λvars=>[(.i64,Af (nth .vD vars 0))]) rfl (λ_=>rfl) (λvars o D F w I=> ?_);unfold LN at D;generalize Af (nth .vD vars 0)=n at D⊢;obtain⟨G,D⟩:=Bo D;simp only[ai,cq]at G;simp only[am]at D;subst D;refine .inl ⟨IY (by kernel_rfl),?_⟩;refine(Any.strconv_Itoa Tryz.laysM171 n G.1 G.2 w (Yap (g:=2) (by kernel_rfl) (by kernel_rfl) I)).mono ?_;rintro e w' ⟨rfl,k,os,rfl⟩;exact⟨rfl,Zwz w k os⟩
end Go.Bm
