/- the library functions Mul64, LeadingZeros64, Sub64 as aB -/
import Derived.Test.YtommijghjlikkaaGreatBmExt
import Derived.Test.YtommijghjlikkaaGreatSeShelf
set_option linter.unusedVariables false
set_option linter.unusedSimpArgs false
namespace Go.Bm
open Go.Proofs Go.RowKit
def F2:Int:=18446744073709551616
def inU (x:Int):Bool:=decide (0<=x)&&decide (x<F2)
def YY:Sk:={tmps:=[TS.v false [CS.int .u64],TS.v false [CS.int .u64]],aA:=[],aB:=[]}
def Qih:Sk:={tmps:=[TS.tup [(false,[CS.int .u64]),(false,[CS.int .u64])]],aA:=[],aB:=[]}
def SM (x y:Int):Option (List AC):=bif inU x&&inU y then some [.int .u64 (x*y/F2), .int .u64 (x*y%F2)]else none
def IE (vars:List AC):Option (List AC):=SM (Ag (nth .dead vars 0)) (Ag (nth .dead vars 1))
theorem Qw9:Al Tryz.prog (175,Ad YY Qih IE):=by
 refine UM (ar:=λvars=>[(.u64,Ag (nth .dead vars 0)),(.u64,Ag (nth .dead vars 1))]) (val:=λo=> .tuple #[.int .u64 (Ag (nth .dead o 0)), .int .u64 (Ag (nth .dead o 1))]) rfl (λ_=>rfl) (λvars o ho w=> ?_) (Q5f _ _);unfold IE SM at ho;generalize Ag (nth .dead vars 0)=x at ho⊢;generalize Ag (nth .dead vars 1)=y at ho⊢;obtain⟨hc,ho⟩:=B2 ho;simp only[inU,ak,co]at hc;obtain⟨⟨hx0,hx⟩,hy0,hy⟩:=hc;have e64:F2=18446744073709551616:=rfl;simp only[av]at ho;subst ho;obtain⟨X,rfl⟩:=bv hx0;obtain⟨Y,rfl⟩:=bv hy0;refine .inl ⟨R4 (by kernel_rfl),?_⟩;refine(Tryz.bits_Mul64 X Y (by omega) (by omega) w).mono ?_;rintro e w' ⟨rfl,rfl⟩;refine⟨?_,rfl⟩;simp only[nth,Ag,F2];rfl
def Q0e:Sk:={tmps:=[TS.v false [CS.int .u64]],aA:=[],aB:=[]}
def Q5i:Sk:={tmps:=[TS.v false [CS.int .i64]],aA:=[],aB:=[]}
def Ia (vars:List AC):Option (List AC):=bif inU (Ag (nth .dead vars 0))then some [.int .i64 (64-(Lib.bitLen (Ag (nth .dead vars 0)).toNat:Int))]else none
theorem Zof:Al Tryz.prog (176,Ad Q0e Q5i Ia):=by
 refine UM (ar:=λvars=>[(.u64,Ag (nth .dead vars 0))]) (val:=λo=> .int .i64 (Ag (nth .dead o 0))) rfl (λ_=>rfl) (λvars o ho w=> ?_) (Zjp _);unfold Ia at ho;generalize Ag (nth .dead vars 0)=x at ho⊢;obtain⟨hc,ho⟩:=B2 ho;simp only[inU,ak,co]at hc;have e64:F2=18446744073709551616:=rfl;simp only[av]at ho;subst ho;refine .inl ⟨R4 (by kernel_rfl),?_⟩;refine(Tryz.bits_LeadingZeros64 x w hc.1 (by omega)).mono ?_;rintro e w' ⟨rfl,rfl⟩;exact⟨rfl,rfl⟩
def Q3f:Sk:={tmps:=[TS.v false [CS.int .u64],TS.v false [CS.int .u64],TS.v false [CS.int .u64]],aA:=[],aB:=[]}
def Qx0:Sk:={tmps:=[TS.tup [(false,[CS.int .u64]),(false,[CS.int .u64])]],aA:=[],aB:=[]}
def KF (vars:List AC):Option (List AC):=
 bif inU (Ag (nth .dead vars 0))&&inU (Ag (nth .dead vars 1))&&(decide (Ag (nth .dead vars 2)=0)||decide (Ag (nth .dead vars 2)=1))then
  some [.int .u64 ((Ag (nth .dead vars 0)-Ag (nth .dead vars 1)-Ag (nth .dead vars 2))%F2), .int .u64 (bif decide (Ag (nth .dead vars 0)<Ag (nth .dead vars 1)+Ag (nth .dead vars 2))then 1 else 0)]else none
theorem Zd1:Al Tryz.prog (222,Ad Q3f Qx0 KF):=by
 refine UM (ar:=λvars=>[(.u64,Ag (nth .dead vars 0)),(.u64,Ag (nth .dead vars 1)),(.u64,Ag (nth .dead vars 2))]) (val:=λo=> .tuple #[.int .u64 (Ag (nth .dead o 0)), .int .u64 (Ag (nth .dead o 1))]) rfl (λ_=>rfl) (λvars o ho w=> ?_) (Q5f _ _);unfold KF at ho;generalize Ag (nth .dead vars 0)=x at ho⊢;generalize Ag (nth .dead vars 1)=y at ho⊢;generalize Ag (nth .dead vars 2)=b at ho⊢;obtain⟨hc,ho⟩:=B2 ho;simp only[inU,ak,Bool.or_eq_true,co]at hc;have e64:F2=18446744073709551616:=rfl;obtain⟨⟨⟨hx0,hx⟩,hy0,hy⟩,hb⟩:=hc;simp only[av]at ho;subst ho;obtain⟨X,rfl⟩:=bv hx0;obtain⟨Y,rfl⟩:=bv hy0;obtain⟨B,rfl⟩:=bv (a:=b) (by omega);refine .inr ⟨_,w,?_,rfl,rfl⟩;have:=run_sub64 (P:=Tryz.prog) X Y B (by omega) w;show(callFunc 222 #[.int .u64 X, .int .u64 Y, .int .u64 B]).run Tryz.prog w=_;rw[run_callFunc_extern Tryz.func222 (by kernel_rfl) (by kernel_rfl) (by kernel_rfl) (e:=sub64Entry) (by kernel_rfl),this];have e1:(((X+18446744073709551616-Y-B)%18446744073709551616:Nat):Int)=((X:Int)-Y-B)%F2:=by rw[e64];omega
 have e2:((if X<Y+B then 1 else 0:Nat):Int)=(bif decide ((X:Int)<Y+B)then 1 else 0):=by
  by_cases h:X<Y+B
  ·rw[aa h,an (by omega)];rfl
  ·rw[ab h,ap (by omega)];rfl
 rw[e1,e2];rfl
end Go.Bm
