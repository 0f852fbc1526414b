/- the library functions Mul64, LeadingZeros64, Sub64 as aC -/
import Derived.Test.YtnnpdlgenmnekaaGreatDoorBmExt
import Derived.Test.YtnnpdlgenmnekaaGreatDoorSeShelf
set_option linter.unusedVariables false
set_option linter.unusedSimpArgs false
namespace Go.Bm
open Go.Proofs Go.RowKit
def Fv:Int:=18446744073709551616
def inU (x:Int):Bool:=decide (0<=x)&&decide (x<Fv)
def Zi:Sk:={tmps:=[TS.v false [CS.int .u64],TS.v false [CS.int .u64]],aB:=[],aC:=[]}
def U4:Sk:={tmps:=[TS.tup [(false,[CS.int .u64]),(false,[CS.int .u64])]],aB:=[],aC:=[]}
def RR (x y:Int):Option (List AC):=bif inU x&&inU y then some [.int .u64 (x*y/Fv), .int .u64 (x*y%Fv)]else none
def H3 (vars:List AC):Option (List AC):=RR (Af (nth .vD vars 0)) (Af (nth .vD vars 1))
theorem Qu4:Al Tryz.prog (171,Ac Zi U4 H3):=by
 refine Qf5 (ar:=λvars=>[(.u64,Af (nth .vD vars 0)),(.u64,Af (nth .vD vars 1))]) (val:=λo=> .tuple #[.int .u64 (Af (nth .vD o 0)), .int .u64 (Af (nth .vD o 1))]) rfl (λ_=>rfl) (λvars o D w=> ?_) (Qtx _ _);unfold H3 RR at D;generalize Af (nth .vD vars 0)=x at D⊢;generalize Af (nth .vD vars 1)=y at D⊢;obtain⟨L,D⟩:=Bo D;simp only[inU,ai,cq]at L;obtain⟨⟨G,N⟩,I,O⟩:=L;have M:Fv=18446744073709551616:=rfl;simp only[am]at D;subst D;obtain⟨X,rfl⟩:=bq G;obtain⟨Y,rfl⟩:=bq I;refine .inl ⟨IY (by kernel_rfl),?_⟩;refine(Tryz.bits_Mul64 X Y (by omega) (by omega) w).mono ?_;rintro e w' ⟨rfl,rfl⟩;refine⟨?_,rfl⟩;simp only[nth,Af,Fv];rfl
def Q9y:Sk:={tmps:=[TS.v false [CS.int .u64]],aB:=[],aC:=[]}
def Q81:Sk:={tmps:=[TS.v false [CS.int .i64]],aB:=[],aC:=[]}
def Iw (vars:List AC):Option (List AC):=bif inU (Af (nth .vD vars 0))then some [.int .i64 (64-(Lib.bitLen (Af (nth .vD vars 0)).toNat:Int))]else none
theorem Zxy:Al Tryz.prog (172,Ac Q9y Q81 Iw):=by
 refine Qf5 (ar:=λvars=>[(.u64,Af (nth .vD vars 0))]) (val:=λo=> .int .i64 (Af (nth .vD o 0))) rfl (λ_=>rfl) (λvars o D w=> ?_) (Z95 _);unfold Iw at D;generalize Af (nth .vD vars 0)=x at D⊢;obtain⟨G,D⟩:=Bo D;simp only[inU,ai,cq]at G;have I:Fv=18446744073709551616:=rfl;simp only[am]at D;subst D;refine .inl ⟨IY (by kernel_rfl),?_⟩;refine(Tryz.bits_LeadingZeros64 x w G.1 (by omega)).mono ?_;rintro e w' ⟨rfl,rfl⟩;exact⟨rfl,rfl⟩
def Q0h:Sk:={tmps:=[TS.v false [CS.int .u64],TS.v false [CS.int .u64],TS.v false [CS.int .u64]],aB:=[],aC:=[]}
def Q3e:Sk:={tmps:=[TS.tup [(false,[CS.int .u64]),(false,[CS.int .u64])]],aB:=[],aC:=[]}
def Ke (vars:List AC):Option (List AC):=
 bif inU (Af (nth .vD vars 0))&&inU (Af (nth .vD vars 1))&&(decide (Af (nth .vD vars 2)=0)||decide (Af (nth .vD vars 2)=1))then
  some [.int .u64 ((Af (nth .vD vars 0)-Af (nth .vD vars 1)-Af (nth .vD vars 2))%Fv), .int .u64 (bif decide (Af (nth .vD vars 0)<Af (nth .vD vars 1)+Af (nth .vD vars 2))then 1 else 0)]else none
theorem Zuo:Al Tryz.prog (289,Ac Q0h Q3e Ke):=by
 refine Qf5 (ar:=λvars=>[(.u64,Af (nth .vD vars 0)),(.u64,Af (nth .vD vars 1)),(.u64,Af (nth .vD vars 2))]) (val:=λo=> .tuple #[.int .u64 (Af (nth .vD o 0)), .int .u64 (Af (nth .vD o 1))]) rfl (λ_=>rfl) (λvars o D w=> ?_) (Qtx _ _);unfold Ke at D;generalize Af (nth .vD vars 0)=x at D⊢;generalize Af (nth .vD vars 1)=y at D⊢;generalize Af (nth .vD vars 2)=b at D⊢;obtain⟨M,D⟩:=Bo D;simp only[inU,ai,jt,cq]at M;have G:Fv=18446744073709551616:=rfl;obtain⟨⟨⟨I,N⟩,L,O⟩,hb⟩:=M;simp only[am]at D;subst D;obtain⟨X,rfl⟩:=bq I;obtain⟨Y,rfl⟩:=bq L;obtain⟨B,rfl⟩:=bq (a:=b) (by omega);refine .inr ⟨_,w,?_,rfl,rfl⟩;have:=run_sub64 (P:=Tryz.prog) X Y B (by omega) w;show(callFunc 289 #[.int .u64 X, .int .u64 Y, .int .u64 B]).run Tryz.prog w=_;rw[run_callFunc_extern Tryz.func289 (by kernel_rfl) (by kernel_rfl) (by kernel_rfl) (e:=sub64Entry) (by kernel_rfl),this];have e1:(((X+18446744073709551616-Y-B)%18446744073709551616:Nat):Int)=((X:Int)-Y-B)%Fv:=by rw[G];omega
 have e2:((if X<Y+B then 1 else 0:Nat):Int)=(bif decide ((X:Int)<Y+B)then 1 else 0):=by
  by_cases h:X<Y+B
  ·rw[ab h,aj (by omega)];rfl
  ·rw[aa h,an (by omega)];rfl
 rw[e1,e2];rfl
end Go.Bm
