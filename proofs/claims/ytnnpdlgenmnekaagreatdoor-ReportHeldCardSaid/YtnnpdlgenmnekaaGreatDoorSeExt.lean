/- the library functions Mul64, LeadingZeros64, Sub64 as aC -/
import Derived.Test.YtnnpdlgenmnekaaGreatDoorBmExt
import Derived.Test.YtnnpdlgenmnekaaGreatDoorSeShelf
set_option linter.unusedVariables false
set_option linter.unusedSimpArgs false
namespace Go.Bm
open Go.Proofs Go.RowKit
def FQ:Int:=18446744073709551616
def inU (x:Int):Bool:=decide (0<=x)&&decide (x<FQ)
def Qbe:Sk:={tmps:=[TS.v false [CS.int .u64],TS.v false [CS.int .u64]],aB:=[],aC:=[]}
def VP:Sk:={tmps:=[TS.tup [(false,[CS.int .u64]),(false,[CS.int .u64])]],aB:=[],aC:=[]}
def SF (x y:Int):Option (List AC):=bif inU x&&inU y then some [.int .u64 (x*y/FQ), .int .u64 (x*y%FQ)]else none
def Ih (vars:List AC):Option (List AC):=SF (Ah (nth .vD vars 0)) (Ah (nth .vD vars 1))
theorem Qzn:Ak Tryz.prog (171,Ab Qbe VP Ih):=by
 refine Qjt (ar:=λvars=>[(.u64,Ah (nth .vD vars 0)),(.u64,Ah (nth .vD vars 1))]) (val:=λo=> .tuple #[.int .u64 (Ah (nth .vD o 0)), .int .u64 (Ah (nth .vD o 1))]) rfl (λ_=>rfl) (λvars o D w=> ?_) (Qya _ _);unfold Ih SF at D;generalize Ah (nth .vD vars 0)=x at D⊢;generalize Ah (nth .vD vars 1)=y at D⊢;obtain⟨L,D⟩:=BC D;simp only[inU,ak,cg]at L;obtain⟨⟨G,N⟩,I,O⟩:=L;have M:FQ=18446744073709551616:=rfl;simp only[an]at D;subst D;obtain⟨X,rfl⟩:=bc G;obtain⟨Y,rfl⟩:=bc I;refine .inl ⟨Jh (by kernel_rfl),?_⟩;refine(Tryz.bits_Mul64 X Y (by omega) (by omega) w).mono ?_;rintro e w' ⟨rfl,rfl⟩;refine⟨?_,rfl⟩;simp only[nth,Ah,FQ];rfl
def Zgq:Sk:={tmps:=[TS.v false [CS.int .u64]],aB:=[],aC:=[]}
def Zfn:Sk:={tmps:=[TS.v false [CS.int .i64]],aB:=[],aC:=[]}
def IN (vars:List AC):Option (List AC):=bif inU (Ah (nth .vD vars 0))then some [.int .i64 (64-(Lib.bitLen (Ah (nth .vD vars 0)).toNat:Int))]else none
theorem Z64:Ak Tryz.prog (172,Ab Zgq Zfn IN):=by
 refine Qjt (ar:=λvars=>[(.u64,Ah (nth .vD vars 0))]) (val:=λo=> .int .i64 (Ah (nth .vD o 0))) rfl (λ_=>rfl) (λvars o D w=> ?_) (Yi7 _);unfold IN at D;generalize Ah (nth .vD vars 0)=x at D⊢;obtain⟨G,D⟩:=BC D;simp only[inU,ak,cg]at G;have I:FQ=18446744073709551616:=rfl;simp only[an]at D;subst D;refine .inl ⟨Jh (by kernel_rfl),?_⟩;refine(Tryz.bits_LeadingZeros64 x w G.1 (by omega)).mono ?_;rintro e w' ⟨rfl,rfl⟩;exact⟨rfl,rfl⟩
def Q51:Sk:={tmps:=[TS.v false [CS.int .u64],TS.v false [CS.int .u64],TS.v false [CS.int .u64]],aB:=[],aC:=[]}
def Q9m:Sk:={tmps:=[TS.tup [(false,[CS.int .u64]),(false,[CS.int .u64])]],aB:=[],aC:=[]}
def Kt (vars:List AC):Option (List AC):=
 bif inU (Ah (nth .vD vars 0))&&inU (Ah (nth .vD vars 1))&&(decide (Ah (nth .vD vars 2)=0)||decide (Ah (nth .vD vars 2)=1))then
  some [.int .u64 ((Ah (nth .vD vars 0)-Ah (nth .vD vars 1)-Ah (nth .vD vars 2))%FQ), .int .u64 (bif decide (Ah (nth .vD vars 0)<Ah (nth .vD vars 1)+Ah (nth .vD vars 2))then 1 else 0)]else none
theorem Z3p:Ak Tryz.prog (289,Ab Q51 Q9m Kt):=by
 refine Qjt (ar:=λvars=>[(.u64,Ah (nth .vD vars 0)),(.u64,Ah (nth .vD vars 1)),(.u64,Ah (nth .vD vars 2))]) (val:=λo=> .tuple #[.int .u64 (Ah (nth .vD o 0)), .int .u64 (Ah (nth .vD o 1))]) rfl (λ_=>rfl) (λvars o D w=> ?_) (Qya _ _);unfold Kt at D;generalize Ah (nth .vD vars 0)=x at D⊢;generalize Ah (nth .vD vars 1)=y at D⊢;generalize Ah (nth .vD vars 2)=b at D⊢;obtain⟨M,D⟩:=BC D;simp only[inU,ak,Bool.or_eq_true,cg]at M;have G:FQ=18446744073709551616:=rfl;obtain⟨⟨⟨I,N⟩,L,O⟩,hb⟩:=M;simp only[an]at D;subst D;obtain⟨X,rfl⟩:=bc I;obtain⟨Y,rfl⟩:=bc L;obtain⟨B,rfl⟩:=bc (a:=b) (by omega);refine .inr ⟨_,w,?_,rfl,rfl⟩;have:=run_sub64 (P:=Tryz.prog) X Y B (by omega) w;show(callFunc 289 #[.int .u64 X, .int .u64 Y, .int .u64 B]).run Tryz.prog w=_;rw[run_callFunc_extern Tryz.func289 (by kernel_rfl) (by kernel_rfl) (by kernel_rfl) (e:=sub64Entry) (by kernel_rfl),this];have e1:(((X+18446744073709551616-Y-B)%18446744073709551616:Nat):Int)=((X:Int)-Y-B)%FQ:=by rw[G];omega
 have e2:((if X<Y+B then 1 else 0:Nat):Int)=(bif decide ((X:Int)<Y+B)then 1 else 0):=by
  by_cases h:X<Y+B
  ·rw[aa h,ah (by omega)];rfl
  ·rw[ab h,al (by omega)];rfl
 rw[e1,e2];rfl
end Go.Bm
