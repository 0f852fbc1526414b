/- decimal numerals: the library's function Itoa as a row -/
import Derived.Test.YtnnpdlgenmnekaaGreatDoorBmExt
import Derived.Test.YtnnpdlgenmnekaaGreatDoorSeShelf
import Derived.Test.YtnnpdlgenmnekaaGreatDoorSeBld
set_option linter.unusedVariables false
set_option linter.unusedSimpArgs false
namespace Go.Bm
open Go.Proofs Go.RowKit
theorem Z53 (w:World) (k:Nat) (os:Array Obj):Below w.heap.size w (Go.Sort.grow (w.drewN k) os):=
 ⟨rfl,rfl,rfl,by show w.heap.size<=(w.heap++os).size;simp,λj D=>by show(w.heap++os)[j]? =_;rw[Array.getElem?_append_left D]⟩
theorem Yj1 {P:Program} {name:String} {k:IntKind} {D:List Int} {g:Nat} {F:Nat->Prop} {w:World} (G:P.globalNamed name=some g) (I:Qnl=some (g,D.map λz=>Value.int k z)) (h:Gt F w):Lib.TabIs P w name k D:=by
 obtain⟨_,t,z,e⟩:=h _ _ I;unfold Lib.TabIs World.var?;rw[G];simp only[am,e]
abbrev GJ:Sk:=⟨[TS.v false [CS.str]],[],[]⟩
theorem Yad {P:Program} {f:FuncId} {sig:Sk} {m:List AC->Option (List AC)} {ar:List AC->List (IntKind×Int)} (U:sig.okB=true)
  (I:∀vars,AF sig vars=⟨(ar vars).map VG,[],[]⟩)
  (G:∀vars o,m vars=some o->∀(F:Nat->Prop) (w:World),Gt F w->CallsX P f ((ar vars).map Uq).toArray w λe w'=>e= .returned (.string (Bd (nth .vD o 0)))/\Below w.heap.size w w'):
  Ak P (f,Ab sig GJ m):=by
 refine⟨Rx (sig:=sig) (osig:=GJ) (m:=m),λargs mem v mem' h=> ?_⟩;obtain⟨aB,aC⟩:=mem;simp only[Ab]at h;obtain⟨M,h⟩:=BC h;split at h
 ·rename_i vars L;simp only[bm]at h;obtain⟨o,V,h⟩:=h;have hb:AF GJ o=⟨[.c (.raw (.string (Bd (nth .vD o 0))))],[],[]⟩:=rfl;rw[hb]at h;simp only[an,df]at h;obtain⟨rfl,rfl⟩:=h;intro F w X ρ xs N;have D:=N.rebuild (NR M) U L;rw[I]at D;dsimp only at D;have O:=Qxp D;subst O;refine(G vars o V F w X).mono ?_;rintro e w' ⟨rfl,hb⟩;have S:=D.growIm (im':=ρ.im) hb (λ_ h=>h) (λ_ h=> .inl h);refine⟨.string (Bd (nth .vD o 0)),_,rfl,S.slots rfl (λi v T=> ?_) (λv L=> ?_)⟩
  ·cases i with
   |zero=>simp at T;subst T;exact⟨_,rfl,rfl,rfl⟩
   |succ i=>simp at T
  ·simp at L;subst L;exact λa I=>by simp at I;subst I;trivial
 ·simp at h
def Q84:Sk:={tmps:=[TS.v false [CS.int .i64]],aB:=[],aC:=[]}
def Q15:Sk:={tmps:=[TS.v false [CS.str]],aB:=[],aC:=[]}
def J7 (n:Int):ByteArray:=⟨(Lib.itoa n).toArray⟩
def Mf (vars:List AC):Option (List AC):=
 bif decide (-9223372036854775808<=Ah (nth .vD vars 0))&&decide (Ah (nth .vD vars 0)<=9223372036854775807)then some [.raw (.string (J7 (Ah (nth .vD vars 0))))]else none
theorem Ybl:Ak Tryz.prog (122,Ab Q84 Q15 Mf):=by
 refine Yad (ar:=λvars=>[(.i64,Ah (nth .vD vars 0))]) rfl (λ_=>rfl) (λvars o D F w I=> ?_);unfold Mf at D;generalize Ah (nth .vD vars 0)=n at D⊢;obtain⟨G,D⟩:=BC D;simp only[ak,cg]at G;simp only[an]at D;subst D;refine .inl ⟨Jh (by kernel_rfl),?_⟩;refine(Any.strconv_Itoa Tryz.laysM171 n G.1 G.2 w (Yj1 (g:=2) (by kernel_rfl) (by kernel_rfl) I)).mono ?_;rintro e w' ⟨rfl,k,os,rfl⟩;exact⟨rfl,Z53 w k os⟩
end Go.Bm
