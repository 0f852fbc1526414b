/- the library functions Mul64, LeadingZeros64, Sub64 as aC -/
import Derived.Test.YtnnpdlgenmnekaaGreatDoorBmExt
import Derived.Test.YtnnpdlgenmnekaaGreatDoorSeShelf
set_option linter.unusedVariables false
set_option linter.unusedSimpArgs false
namespace Go.Bm
open Go.Proofs Go.RowKit
def FE:Int:=18446744073709551616
def inU (x:Int):Bool:=decide (0<=x)&&decide (x<FE)
def Z4:Sk:={tmps:=[TS.v false [CS.int .u64],TS.v false [CS.int .u64]],aB:=[],aC:=[]}
def VF:Sk:={tmps:=[TS.tup [(false,[CS.int .u64]),(false,[CS.int .u64])]],aB:=[],aC:=[]}
def So (x y:Int):Option (List AC):=bif inU x&&inU y then some [.int .u64 (x*y/FE), .int .u64 (x*y%FE)]else none
def Ih (vars:List AC):Option (List AC):=So (Af (nth .vD vars 0)) (Af (nth .vD vars 1))
theorem Qwv:Al Tryz.prog (171,Ad Z4 VF Ih):=by
 refine Qho (ar:=λvars=>[(.u64,Af (nth .vD vars 0)),(.u64,Af (nth .vD vars 1))]) (val:=λo=> .tuple #[.int .u64 (Af (nth .vD o 0)), .int .u64 (Af (nth .vD o 1))]) rfl (λ_=>rfl) (λvars o D w=> ?_) (Qvm _ _);unfold Ih So at D;generalize Af (nth .vD vars 0)=x at D⊢;generalize Af (nth .vD vars 1)=y at D⊢;obtain⟨L,D⟩:=Bx D;simp only[inU,ak,co]at L;obtain⟨⟨G,N⟩,I,O⟩:=L;have M:FE=18446744073709551616:=rfl;simp only[an]at D;subst D;obtain⟨X,rfl⟩:=bn G;obtain⟨Y,rfl⟩:=bn I;refine .inl ⟨Kx (by kernel_rfl),?_⟩;refine(Tryz.bits_Mul64 X Y (by omega) (by omega) w).mono ?_;rintro e w' ⟨rfl,rfl⟩;refine⟨?_,rfl⟩;simp only[nth,Af,FE];rfl
def Zb3:Sk:={tmps:=[TS.v false [CS.int .u64]],aB:=[],aC:=[]}
def Za5:Sk:={tmps:=[TS.v false [CS.int .i64]],aB:=[],aC:=[]}
def IL (vars:List AC):Option (List AC):=bif inU (Af (nth .vD vars 0))then some [.int .i64 (64-(Lib.bitLen (Af (nth .vD vars 0)).toNat:Int))]else none
theorem Z0v:Al Tryz.prog (172,Ad Zb3 Za5 IL):=by
 refine Qho (ar:=λvars=>[(.u64,Af (nth .vD vars 0))]) (val:=λo=> .int .i64 (Af (nth .vD o 0))) rfl (λ_=>rfl) (λvars o D w=> ?_) (Yc4 _);unfold IL at D;generalize Af (nth .vD vars 0)=x at D⊢;obtain⟨G,D⟩:=Bx D;simp only[inU,ak,co]at G;have I:FE=18446744073709551616:=rfl;simp only[an]at D;subst D;refine .inl ⟨Kx (by kernel_rfl),?_⟩;refine(Tryz.bits_LeadingZeros64 x w G.1 (by omega)).mono ?_;rintro e w' ⟨rfl,rfl⟩;exact⟨rfl,rfl⟩
def Q2d:Sk:={tmps:=[TS.v false [CS.int .u64],TS.v false [CS.int .u64],TS.v false [CS.int .u64]],aB:=[],aC:=[]}
def Q5e:Sk:={tmps:=[TS.tup [(false,[CS.int .u64]),(false,[CS.int .u64])]],aB:=[],aC:=[]}
def KE (vars:List AC):Option (List AC):=
 bif inU (Af (nth .vD vars 0))&&inU (Af (nth .vD vars 1))&&(decide (Af (nth .vD vars 2)=0)||decide (Af (nth .vD vars 2)=1))then
  some [.int .u64 ((Af (nth .vD vars 0)-Af (nth .vD vars 1)-Af (nth .vD vars 2))%FE), .int .u64 (bif decide (Af (nth .vD vars 0)<Af (nth .vD vars 1)+Af (nth .vD vars 2))then 1 else 0)]else none
theorem Zxc:Al Tryz.prog (289,Ad Q2d Q5e KE):=by
 refine Qho (ar:=λvars=>[(.u64,Af (nth .vD vars 0)),(.u64,Af (nth .vD vars 1)),(.u64,Af (nth .vD vars 2))]) (val:=λo=> .tuple #[.int .u64 (Af (nth .vD o 0)), .int .u64 (Af (nth .vD o 1))]) rfl (λ_=>rfl) (λvars o D w=> ?_) (Qvm _ _);unfold KE at D;generalize Af (nth .vD vars 0)=x at D⊢;generalize Af (nth .vD vars 1)=y at D⊢;generalize Af (nth .vD vars 2)=b at D⊢;obtain⟨M,D⟩:=Bx D;simp only[inU,ak,jt,co]at M;have G:FE=18446744073709551616:=rfl;obtain⟨⟨⟨I,N⟩,L,O⟩,hb⟩:=M;simp only[an]at D;subst D;obtain⟨X,rfl⟩:=bn I;obtain⟨Y,rfl⟩:=bn L;obtain⟨B,rfl⟩:=bn (a:=b) (by omega);refine .inr ⟨_,w,?_,rfl,rfl⟩;have:=run_sub64 (P:=Tryz.prog) X Y B (by omega) w;show(callFunc 289 #[.int .u64 X, .int .u64 Y, .int .u64 B]).run Tryz.prog w=_;rw[run_callFunc_extern Tryz.func289 (by kernel_rfl) (by kernel_rfl) (by kernel_rfl) (e:=sub64Entry) (by kernel_rfl),this];have e1:(((X+18446744073709551616-Y-B)%18446744073709551616:Nat):Int)=((X:Int)-Y-B)%FE:=by rw[G];omega
 have e2:((if X<Y+B then 1 else 0:Nat):Int)=(bif decide ((X:Int)<Y+B)then 1 else 0):=by
  by_cases h:X<Y+B
  ·rw[aa h,ai (by omega)];rfl
  ·rw[ab h,aj (by omega)];rfl
 rw[e1,e2];rfl
end Go.Bm
