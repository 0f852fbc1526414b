/- the library functions Mul64, LeadingZeros64, Sub64 as aC -/
import Derived.Test.YtnnpdlgenmnekaaGreatDoorBmExt
import Derived.Test.YtnnpdlgenmnekaaGreatDoorSeShelf
set_option linter.unusedVariables false
set_option linter.unusedSimpArgs false
namespace Go.Bm
open Go.Proofs Go.RowKit
def FI:Int:=18446744073709551616
def inU (x:Int):Bool:=decide (0<=x)&&decide (x<FI)
def Y9:Sk:={tmps:=[TS.v false [CS.int .u64],TS.v false [CS.int .u64]],aB:=[],aC:=[]}
def Vb:Sk:={tmps:=[TS.tup [(false,[CS.int .u64]),(false,[CS.int .u64])]],aB:=[],aC:=[]}
def RU (x y:Int):Option (List AC):=bif inU x&&inU y then some [.int .u64 (x*y/FI), .int .u64 (x*y%FI)]else none
def Ib (vars:List AC):Option (List AC):=RU (Ag (nth .vD vars 0)) (Ag (nth .vD vars 1))
theorem Qs3:An Tryz.prog (171,Ac Y9 Vb Ib):=by
 refine Qff (ar:=λvars=>[(.u64,Ag (nth .vD vars 0)),(.u64,Ag (nth .vD vars 1))]) (val:=λo=> .tuple #[.int .u64 (Ag (nth .vD o 0)), .int .u64 (Ag (nth .vD o 1))]) rfl (λ_=>rfl) (λvars o D w=> ?_) (Qrt _ _);unfold Ib RU at D;generalize Ag (nth .vD vars 0)=x at D⊢;generalize Ag (nth .vD vars 1)=y at D⊢;obtain⟨L,D⟩:=BO D;simp only[inU,aj,dl]at L;obtain⟨⟨G,N⟩,I,O⟩:=L;have M:FI=18446744073709551616:=rfl;simp only[ap]at D;subst D;obtain⟨X,rfl⟩:=bh G;obtain⟨Y,rfl⟩:=bh I;refine .inl ⟨I6 (by kernel_rfl),?_⟩;refine(Tryz.bits_Mul64 X Y (by omega) (by omega) w).mono ?_;rintro e w' ⟨rfl,rfl⟩;refine⟨?_,rfl⟩;simp only[nth,Ag,FI];rfl
def Q8t:Sk:={tmps:=[TS.v false [CS.int .u64]],aB:=[],aC:=[]}
def Q7w:Sk:={tmps:=[TS.v false [CS.int .i64]],aB:=[],aC:=[]}
def IE (vars:List AC):Option (List AC):=bif inU (Ag (nth .vD vars 0))then some [.int .i64 (64-(Lib.bitLen (Ag (nth .vD vars 0)).toNat:Int))]else none
theorem Zwt:An Tryz.prog (172,Ac Q8t Q7w IE):=by
 refine Qff (ar:=λvars=>[(.u64,Ag (nth .vD vars 0))]) (val:=λo=> .int .i64 (Ag (nth .vD o 0))) rfl (λ_=>rfl) (λvars o D w=> ?_) (Z8y _);unfold IE at D;generalize Ag (nth .vD vars 0)=x at D⊢;obtain⟨G,D⟩:=BO D;simp only[inU,aj,dl]at G;have I:FI=18446744073709551616:=rfl;simp only[ap]at D;subst D;refine .inl ⟨I6 (by kernel_rfl),?_⟩;refine(Tryz.bits_LeadingZeros64 x w G.1 (by omega)).mono ?_;rintro e w' ⟨rfl,rfl⟩;exact⟨rfl,rfl⟩
def Qy2:Sk:={tmps:=[TS.v false [CS.int .u64],TS.v false [CS.int .u64],TS.v false [CS.int .u64]],aB:=[],aC:=[]}
def Q15:Sk:={tmps:=[TS.tup [(false,[CS.int .u64]),(false,[CS.int .u64])]],aB:=[],aC:=[]}
def Kn (vars:List AC):Option (List AC):=
 bif inU (Ag (nth .vD vars 0))&&inU (Ag (nth .vD vars 1))&&(decide (Ag (nth .vD vars 2)=0)||decide (Ag (nth .vD vars 2)=1))then
  some [.int .u64 ((Ag (nth .vD vars 0)-Ag (nth .vD vars 1)-Ag (nth .vD vars 2))%FI), .int .u64 (bif decide (Ag (nth .vD vars 0)<Ag (nth .vD vars 1)+Ag (nth .vD vars 2))then 1 else 0)]else none
theorem Ztj:An Tryz.prog (289,Ac Qy2 Q15 Kn):=by
 refine Qff (ar:=λvars=>[(.u64,Ag (nth .vD vars 0)),(.u64,Ag (nth .vD vars 1)),(.u64,Ag (nth .vD vars 2))]) (val:=λo=> .tuple #[.int .u64 (Ag (nth .vD o 0)), .int .u64 (Ag (nth .vD o 1))]) rfl (λ_=>rfl) (λvars o D w=> ?_) (Qrt _ _);unfold Kn at D;generalize Ag (nth .vD vars 0)=x at D⊢;generalize Ag (nth .vD vars 1)=y at D⊢;generalize Ag (nth .vD vars 2)=b at D⊢;obtain⟨M,D⟩:=BO D;simp only[inU,aj,Bool.or_eq_true,dl]at M;have G:FI=18446744073709551616:=rfl;obtain⟨⟨⟨I,N⟩,L,O⟩,hb⟩:=M;simp only[ap]at D;subst D;obtain⟨X,rfl⟩:=bh I;obtain⟨Y,rfl⟩:=bh L;obtain⟨B,rfl⟩:=bh (a:=b) (by omega);refine .inr ⟨_,w,?_,rfl,rfl⟩;have:=run_sub64 (P:=Tryz.prog) X Y B (by omega) w;show(callFunc 289 #[.int .u64 X, .int .u64 Y, .int .u64 B]).run Tryz.prog w=_;rw[run_callFunc_extern Tryz.func289 (by kernel_rfl) (by kernel_rfl) (by kernel_rfl) (e:=sub64Entry) (by kernel_rfl),this];have e1:(((X+18446744073709551616-Y-B)%18446744073709551616:Nat):Int)=((X:Int)-Y-B)%FI:=by rw[G];omega
 have e2:((if X<Y+B then 1 else 0:Nat):Int)=(bif decide ((X:Int)<Y+B)then 1 else 0):=by
  by_cases h:X<Y+B
  ·rw[ab h,ai (by omega)];rfl
  ·rw[aa h,al (by omega)];rfl
 rw[e1,e2];rfl
end Go.Bm
