/- decimal numerals: the library's function Itoa as a row -/
import Derived.Test.YtnnpdlgenmnekaaGreatDoorBmExt
import Derived.Test.YtnnpdlgenmnekaaGreatDoorSeShelf
import Derived.Test.YtnnpdlgenmnekaaGreatDoorSeBld
set_option linter.unusedVariables false
set_option linter.unusedSimpArgs false
namespace Go.Bm
open Go.Proofs Go.RowKit
theorem Zvt (w:World) (k:Nat) (os:Array Obj):Below w.heap.size w (Go.Sort.grow (w.drewN k) os):=
 ⟨rfl,rfl,rfl,by show w.heap.size<=(w.heap++os).size;simp,λj D=>by show(w.heap++os)[j]? =_;rw[Array.getElem?_append_left D]⟩
theorem Z9m {P:Program} {name:String} {k:IntKind} {D:List Int} {g:Nat} {F:Nat->Prop} {w:World} (G:P.globalNamed name=some g) (I:Qii=some (g,D.map λz=>Value.int k z)) (h:Gt F w):Lib.TabIs P w name k D:=by
 obtain⟨_,t,z,e⟩:=h _ _ I;unfold Lib.TabIs World.var?;rw[G];simp only[am,e]
abbrev Gz:Sk:=⟨[TS.v false [CS.str]],[],[]⟩
theorem Zzw {P:Program} {f:FuncId} {sig:Sk} {m:List AC->Option (List AC)} {ar:List AC->List (IntKind×Int)} (V:sig.okB=true)
  (I:∀vars,AH sig vars=⟨(ar vars).map U4,[],[]⟩)
  (G:∀vars o,m vars=some o->∀(F:Nat->Prop) (w:World),Gt F w->CallsX P f ((ar vars).map TG).toArray w λe w'=>e= .returned (.string (Bp (nth .vD o 0)))/\Below w.heap.size w w'):
  An P (f,Ac sig Gz m):=by
 refine⟨QV (sig:=sig) (osig:=Gz) (m:=m),λargs mem v mem' h=> ?_⟩;obtain⟨aB,aC⟩:=mem;simp only[Ac]at h;obtain⟨M,h⟩:=BO h;split at h
 ·rename_i vars L;simp only[bn]at h;obtain⟨o,X,h⟩:=h;have hb:AH Gz o=⟨[.c (.raw (.string (Bp (nth .vD o 0))))],[],[]⟩:=rfl;rw[hb]at h;simp only[ap,dq]at h;obtain⟨rfl,rfl⟩:=h;intro F w Y ρ xs N;have D:=N.rebuild (NE M) V L;rw[I]at D;dsimp only at D;have O:=Qrb D;subst O;refine(G vars o X F w Y).mono ?_;rintro e w' ⟨rfl,hb⟩;have T:=D.growIm (im':=ρ.im) hb (λ_ h=>h) (λ_ h=> .inl h);refine⟨.string (Bp (nth .vD o 0)),_,rfl,T.slots rfl (λi v U=> ?_) (λv L=> ?_)⟩
  ·cases i with
   |zero=>simp at U;subst U;exact⟨_,rfl,rfl,rfl⟩
   |succ i=>simp at U
  ·simp at L;subst L;exact λa I=>by simp at I;subst I;trivial
 ·simp at h
def Q1k:Sk:={tmps:=[TS.v false [CS.int .i64]],aB:=[],aC:=[]}
def Qvl:Sk:={tmps:=[TS.v false [CS.str]],aB:=[],aC:=[]}
def J3 (n:Int):ByteArray:=⟨(Lib.itoa n).toArray⟩
def L8 (vars:List AC):Option (List AC):=
 bif decide (-9223372036854775808<=Ag (nth .vD vars 0))&&decide (Ag (nth .vD vars 0)<=9223372036854775807)then some [.raw (.string (J3 (Ag (nth .vD vars 0))))]else none
theorem Z03:An Tryz.prog (122,Ac Q1k Qvl L8):=by
 refine Zzw (ar:=λvars=>[(.i64,Ag (nth .vD vars 0))]) rfl (λ_=>rfl) (λvars o D F w I=> ?_);unfold L8 at D;generalize Ag (nth .vD vars 0)=n at D⊢;obtain⟨G,D⟩:=BO D;simp only[aj,dl]at G;simp only[ap]at D;subst D;refine .inl ⟨I6 (by kernel_rfl),?_⟩;refine(Any.strconv_Itoa Tryz.laysM171 n G.1 G.2 w (Z9m (g:=2) (by kernel_rfl) (by kernel_rfl) I)).mono ?_;rintro e w' ⟨rfl,k,os,rfl⟩;exact⟨rfl,Zvt w k os⟩
end Go.Bm
