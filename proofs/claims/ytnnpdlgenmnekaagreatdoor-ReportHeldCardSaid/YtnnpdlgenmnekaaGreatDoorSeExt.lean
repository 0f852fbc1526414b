/- the library functions Mul64, LeadingZeros64, Sub64 as aC -/
import Derived.Test.YtnnpdlgenmnekaaGreatDoorBmExt
import Derived.Test.YtnnpdlgenmnekaaGreatDoorSeShelf
set_option linter.unusedVariables false
set_option linter.unusedSimpArgs false
namespace Go.Bm
open Go.Proofs Go.RowKit
def FQ:Int:=18446744073709551616
def inU (x:Int):Bool:=decide (0<=x)&&decide (x<FQ)
def Qbl:Sk:={tmps:=[TS.v false [CS.int .u64],TS.v false [CS.int .u64]],aB:=[],aC:=[]}
def VY:Sk:={tmps:=[TS.tup [(false,[CS.int .u64]),(false,[CS.int .u64])]],aB:=[],aC:=[]}
def SM (x y:Int):Option (List AC):=bif inU x&&inU y then some [.int .u64 (x*y/FQ), .int .u64 (x*y%FQ)]else none
def Il (vars:List AC):Option (List AC):=SM (Ah (nth .vD vars 0)) (Ah (nth .vD vars 1))
theorem Qzq:Ak Tryz.prog (171,Ac Qbl VY Il):=by
 refine Qjy (ar:=λvars=>[(.u64,Ah (nth .vD vars 0)),(.u64,Ah (nth .vD vars 1))]) (val:=λo=> .tuple #[.int .u64 (Ah (nth .vD o 0)), .int .u64 (Ah (nth .vD o 1))]) rfl (λ_=>rfl) (λvars o D w=> ?_) (Qyc _ _);unfold Il SM at D;generalize Ah (nth .vD vars 0)=x at D⊢;generalize Ah (nth .vD vars 1)=y at D⊢;obtain⟨L,D⟩:=Bn D;simp only[inU,al,bz]at L;obtain⟨⟨G,N⟩,I,O⟩:=L;have M:FQ=18446744073709551616:=rfl;simp only[an]at D;subst D;obtain⟨X,rfl⟩:=bj G;obtain⟨Y,rfl⟩:=bj I;refine .inl ⟨Jm (by kernel_rfl),?_⟩;refine(Tryz.bits_Mul64 X Y (by omega) (by omega) w).mono ?_;rintro e w' ⟨rfl,rfl⟩;refine⟨?_,rfl⟩;simp only[nth,Ah,FQ];rfl
def Zgs:Sk:={tmps:=[TS.v false [CS.int .u64]],aB:=[],aC:=[]}
def Zfp:Sk:={tmps:=[TS.v false [CS.int .i64]],aB:=[],aC:=[]}
def IS (vars:List AC):Option (List AC):=bif inU (Ah (nth .vD vars 0))then some [.int .i64 (64-(Lib.bitLen (Ah (nth .vD vars 0)).toNat:Int))]else none
theorem Z6v:Ak Tryz.prog (172,Ac Zgs Zfp IS):=by
 refine Qjy (ar:=λvars=>[(.u64,Ah (nth .vD vars 0))]) (val:=λo=> .int .i64 (Ah (nth .vD o 0))) rfl (λ_=>rfl) (λvars o D w=> ?_) (Yix _);unfold IS at D;generalize Ah (nth .vD vars 0)=x at D⊢;obtain⟨G,D⟩:=Bn D;simp only[inU,al,bz]at G;have I:FQ=18446744073709551616:=rfl;simp only[an]at D;subst D;refine .inl ⟨Jm (by kernel_rfl),?_⟩;refine(Tryz.bits_LeadingZeros64 x w G.1 (by omega)).mono ?_;rintro e w' ⟨rfl,rfl⟩;exact⟨rfl,rfl⟩
def Q55:Sk:={tmps:=[TS.v false [CS.int .u64],TS.v false [CS.int .u64],TS.v false [CS.int .u64]],aB:=[],aC:=[]}
def Q9q:Sk:={tmps:=[TS.tup [(false,[CS.int .u64]),(false,[CS.int .u64])]],aB:=[],aC:=[]}
def Kx (vars:List AC):Option (List AC):=
 bif inU (Ah (nth .vD vars 0))&&inU (Ah (nth .vD vars 1))&&(decide (Ah (nth .vD vars 2)=0)||decide (Ah (nth .vD vars 2)=1))then
  some [.int .u64 ((Ah (nth .vD vars 0)-Ah (nth .vD vars 1)-Ah (nth .vD vars 2))%FQ), .int .u64 (bif decide (Ah (nth .vD vars 0)<Ah (nth .vD vars 1)+Ah (nth .vD vars 2))then 1 else 0)]else none
theorem Z3g:Ak Tryz.prog (289,Ac Q55 Q9q Kx):=by
 refine Qjy (ar:=λvars=>[(.u64,Ah (nth .vD vars 0)),(.u64,Ah (nth .vD vars 1)),(.u64,Ah (nth .vD vars 2))]) (val:=λo=> .tuple #[.int .u64 (Ah (nth .vD o 0)), .int .u64 (Ah (nth .vD o 1))]) rfl (λ_=>rfl) (λvars o D w=> ?_) (Qyc _ _);unfold Kx at D;generalize Ah (nth .vD vars 0)=x at D⊢;generalize Ah (nth .vD vars 1)=y at D⊢;generalize Ah (nth .vD vars 2)=b at D⊢;obtain⟨M,D⟩:=Bn D;simp only[inU,al,jx,bz]at M;have G:FQ=18446744073709551616:=rfl;obtain⟨⟨⟨I,N⟩,L,O⟩,hb⟩:=M;simp only[an]at D;subst D;obtain⟨X,rfl⟩:=bj I;obtain⟨Y,rfl⟩:=bj L;obtain⟨B,rfl⟩:=bj (a:=b) (by omega);refine .inr ⟨_,w,?_,rfl,rfl⟩;have:=run_sub64 (P:=Tryz.prog) X Y B (by omega) w;show(callFunc 289 #[.int .u64 X, .int .u64 Y, .int .u64 B]).run Tryz.prog w=_;rw[run_callFunc_extern Tryz.func289 (by kernel_rfl) (by kernel_rfl) (by kernel_rfl) (e:=sub64Entry) (by kernel_rfl),this];have e1:(((X+18446744073709551616-Y-B)%18446744073709551616:Nat):Int)=((X:Int)-Y-B)%FQ:=by rw[G];omega
 have e2:((if X<Y+B then 1 else 0:Nat):Int)=(bif decide ((X:Int)<Y+B)then 1 else 0):=by
  by_cases h:X<Y+B
  ·rw[aa h,ak (by omega)];rfl
  ·rw[ab h,am (by omega)];rfl
 rw[e1,e2];rfl
end Go.Bm
