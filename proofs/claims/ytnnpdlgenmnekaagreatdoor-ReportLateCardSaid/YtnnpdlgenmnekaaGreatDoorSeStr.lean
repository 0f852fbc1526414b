/- decimal numerals: the library's function Itoa as a row -/
import Derived.Test.YtnnpdlgenmnekaaGreatDoorBmExt
import Derived.Test.YtnnpdlgenmnekaaGreatDoorSeShelf
import Derived.Test.YtnnpdlgenmnekaaGreatDoorSeBld
set_option linter.unusedVariables false
set_option linter.unusedSimpArgs false
namespace Go.Bm
open Go.Proofs Go.RowKit
theorem Zzr (w:World) (k:Nat) (os:Array Obj):Below w.heap.size w (Go.Sort.grow (w.drewN k) os):=
 ⟨rfl,rfl,rfl,by show w.heap.size<=(w.heap++os).size;simp,λj D=>by show(w.heap++os)[j]? =_;rw[Array.getElem?_append_left D]⟩
theorem Ydo {P:Program} {name:String} {k:IntKind} {D:List Int} {g:Nat} {F:Nat->Prop} {w:World} (G:P.globalNamed name=some g) (I:Qk5=some (g,D.map λz=>Value.int k z)) (h:Gt F w):Lib.TabIs P w name k D:=by
 obtain⟨_,t,z,e⟩:=h _ _ I;unfold Lib.TabIs World.var?;rw[G];simp only[af,e]
abbrev Gq:Sk:=⟨[TS.v false [CS.str]],[],[]⟩
theorem Z35 {P:Program} {f:FuncId} {sig:Sk} {m:List AC->Option (List AC)} {ar:List AC->List (IntKind×Int)} (U:sig.okB=true)
  (I:∀vars,AA sig vars=⟨(ar vars).map Vx,[],[]⟩)
  (G:∀vars o,m vars=some o->∀(F:Nat->Prop) (w:World),Gt F w->CallsX P f ((ar vars).map Uk).toArray w λe w'=>e= .returned (.string (A8 (nth .vD o 0)))/\Below w.heap.size w w'):
  Al P (f,Ad sig Gq m):=by
 refine⟨Rk (sig:=sig) (osig:=Gq) (m:=m),λargs mem v mem' h=> ?_⟩;obtain⟨aB,aC⟩:=mem;simp only[Ad]at h;obtain⟨M,h⟩:=Bx h;split at h
 ·rename_i vars L;simp only[bv]at h;obtain⟨o,V,h⟩:=h;have hb:AA Gq o=⟨[.c (.raw (.string (A8 (nth .vD o 0))))],[],[]⟩:=rfl;rw[hb]at h;simp only[an,cg]at h;obtain⟨rfl,rfl⟩:=h;intro F w X ρ xs N;have D:=N.rebuild (Qr M) U L;rw[I]at D;dsimp only at D;have O:=Qu5 D;subst O;refine(G vars o V F w X).mono ?_;rintro e w' ⟨rfl,hb⟩;have S:=D.growIm (im':=ρ.im) hb (λ_ h=>h) (λ_ h=> .inl h);refine⟨.string (A8 (nth .vD o 0)),_,rfl,S.slots rfl (λi v T=> ?_) (λv L=> ?_)⟩
  ·cases i with
   |zero=>simp at T;subst T;exact⟨_,rfl,rfl,rfl⟩
   |succ i=>simp at T
  ·simp at L;subst L;exact λa I=>by simp at I;subst I;trivial
 ·simp at h
def Q4w:Sk:={tmps:=[TS.v false [CS.int .i64]],aB:=[],aC:=[]}
def Qyy:Sk:={tmps:=[TS.v false [CS.str]],aB:=[],aC:=[]}
def Kj (n:Int):ByteArray:=⟨(Lib.itoa n).toArray⟩
def L6 (vars:List AC):Option (List AC):=
 bif decide (-9223372036854775808<=Af (nth .vD vars 0))&&decide (Af (nth .vD vars 0)<=9223372036854775807)then some [.raw (.string (Kj (Af (nth .vD vars 0))))]else none
theorem Z5e:Al Tryz.prog (122,Ad Q4w Qyy L6):=by
 refine Z35 (ar:=λvars=>[(.i64,Af (nth .vD vars 0))]) rfl (λ_=>rfl) (λvars o D F w I=> ?_);unfold L6 at D;generalize Af (nth .vD vars 0)=n at D⊢;obtain⟨G,D⟩:=Bx D;simp only[ak,co]at G;simp only[an]at D;subst D;refine .inl ⟨Kx (by kernel_rfl),?_⟩;refine(Any.strconv_Itoa Tryz.laysM171 n G.1 G.2 w (Ydo (g:=2) (by kernel_rfl) (by kernel_rfl) I)).mono ?_;rintro e w' ⟨rfl,k,os,rfl⟩;exact⟨rfl,Zzr w k os⟩
end Go.Bm
