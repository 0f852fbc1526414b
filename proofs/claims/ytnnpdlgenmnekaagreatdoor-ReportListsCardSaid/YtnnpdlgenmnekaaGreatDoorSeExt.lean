/- the library functions Mul64, LeadingZeros64, Sub64 as aC -/
import Derived.Test.YtnnpdlgenmnekaaGreatDoorBmExt
import Derived.Test.YtnnpdlgenmnekaaGreatDoorSeShelf
set_option linter.unusedVariables false
set_option linter.unusedSimpArgs false
namespace Go.Bm
open Go.Proofs Go.RowKit
def Dr:Int:=18446744073709551616
def inU (x:Int):Bool:=decide (0<=x)&&decide (x<Dr)
def H3:Sk:={tmps:=[TS.v false [CS.int .u64],TS.v false [CS.int .u64]],aB:=[],aC:=[]}
def Hr:Sk:={tmps:=[TS.tup [(false,[CS.int .u64]),(false,[CS.int .u64])]],aB:=[],aC:=[]}
def J9 (x y:Int):Option (List AC):=bif inU x&&inU y then some [.int .u64 (x*y/Dr), .int .u64 (x*y%Dr)]else none
def GB (vars:List AC):Option (List AC):=J9 (Ad (nth .vD vars 0)) (Ad (nth .vD vars 1))
theorem OU:Av Tryz.prog (171,Aj H3 Hr GB):=by
 refine IK (ar:=λvars=>[(.u64,Ad (nth .vD vars 0)),(.u64,Ad (nth .vD vars 1))]) (val:=λo=> .tuple #[.int .u64 (Ad (nth .vD o 0)), .int .u64 (Ad (nth .vD o 1))]) rfl (λ_=>rfl) (λvars o ho w=> ?_) (Kb _ _);unfold GB J9 at ho;generalize Ad (nth .vD vars 0)=x at ho⊢;generalize Ad (nth .vD vars 1)=y at ho⊢;obtain⟨E,ho⟩:=Ay ho;simp only[inU,af,bm]at E;obtain⟨⟨A,J⟩,D,L⟩:=E;have G:Dr=18446744073709551616:=rfl;simp only[ag]at ho;subst ho;obtain⟨X,rfl⟩:=ch A;obtain⟨Y,rfl⟩:=ch D;refine .inl ⟨DS (by kernel_rfl),?_⟩;refine(Tryz.bits_Mul64 X Y (by omega) (by omega) w).mono ?_;rintro e w' ⟨rfl,rfl⟩;refine⟨?_,rfl⟩;simp only[nth,Ad,Dr];rfl
def Jp:Sk:={tmps:=[TS.v false [CS.int .u64]],aB:=[],aC:=[]}
def Jm:Sk:={tmps:=[TS.v false [CS.int .i64]],aB:=[],aC:=[]}
def Hj (vars:List AC):Option (List AC):=bif inU (Ad (nth .vD vars 0))then some [.int .i64 (64-(Lib.bitLen (Ad (nth .vD vars 0)).toNat:Int))]else none
theorem RW:Av Tryz.prog (172,Aj Jp Jm Hj):=by
 refine IK (ar:=λvars=>[(.u64,Ad (nth .vD vars 0))]) (val:=λo=> .int .i64 (Ad (nth .vD o 0))) rfl (λ_=>rfl) (λvars o ho w=> ?_) (Uj _);unfold Hj at ho;generalize Ad (nth .vD vars 0)=x at ho⊢;obtain⟨A,ho⟩:=Ay ho;simp only[inU,af,bm]at A;have D:Dr=18446744073709551616:=rfl;simp only[ag]at ho;subst ho;refine .inl ⟨DS (by kernel_rfl),?_⟩;refine(Tryz.bits_LeadingZeros64 x w A.1 (by omega)).mono ?_;rintro e w' ⟨rfl,rfl⟩;exact⟨rfl,rfl⟩
def Iu:Sk:={tmps:=[TS.v false [CS.int .u64],TS.v false [CS.int .u64],TS.v false [CS.int .u64]],aB:=[],aC:=[]}
def IJ:Sk:={tmps:=[TS.tup [(false,[CS.int .u64]),(false,[CS.int .u64])]],aB:=[],aC:=[]}
def GL (vars:List AC):Option (List AC):=
 bif inU (Ad (nth .vD vars 0))&&inU (Ad (nth .vD vars 1))&&(decide (Ad (nth .vD vars 2)=0)||decide (Ad (nth .vD vars 2)=1))then
  some [.int .u64 ((Ad (nth .vD vars 0)-Ad (nth .vD vars 1)-Ad (nth .vD vars 2))%Dr), .int .u64 (bif decide (Ad (nth .vD vars 0)<Ad (nth .vD vars 1)+Ad (nth .vD vars 2))then 1 else 0)]else none
theorem Q_:Av Tryz.prog (289,Aj Iu IJ GL):=by
 refine IK (ar:=λvars=>[(.u64,Ad (nth .vD vars 0)),(.u64,Ad (nth .vD vars 1)),(.u64,Ad (nth .vD vars 2))]) (val:=λo=> .tuple #[.int .u64 (Ad (nth .vD o 0)), .int .u64 (Ad (nth .vD o 1))]) rfl (λ_=>rfl) (λvars o ho w=> ?_) (Kb _ _);unfold GL at ho;generalize Ad (nth .vD vars 0)=x at ho⊢;generalize Ad (nth .vD vars 1)=y at ho⊢;generalize Ad (nth .vD vars 2)=b at ho⊢;obtain⟨G,ho⟩:=Ay ho;simp only[inU,af,Bool.or_eq_true,bm]at G;have A:Dr=18446744073709551616:=rfl;obtain⟨⟨⟨D,J⟩,E,L⟩,hb⟩:=G;simp only[ag]at ho;subst ho;obtain⟨X,rfl⟩:=ch D;obtain⟨Y,rfl⟩:=ch E;obtain⟨B,rfl⟩:=ch (a:=b) (by omega);refine .inr ⟨_,w,?_,rfl,rfl⟩;have:=run_sub64 (P:=Tryz.prog) X Y B (by omega) w;show(callFunc 289 #[.int .u64 X, .int .u64 Y, .int .u64 B]).run Tryz.prog w=_;rw[run_callFunc_extern Tryz.func289 (by kernel_rfl) (by kernel_rfl) (by kernel_rfl) (e:=sub64Entry) (by kernel_rfl),this];have e1:(((X+18446744073709551616-Y-B)%18446744073709551616:Nat):Int)=((X:Int)-Y-B)%Dr:=by rw[A];omega
 have e2:((if X<Y+B then 1 else 0:Nat):Int)=(bif decide ((X:Int)<Y+B)then 1 else 0):=by
  by_cases h:X<Y+B
  ·rw[cm h,au (by omega)];rfl
  ·rw[cd h,bd (by omega)];rfl
 rw[e1,e2];rfl
end Go.Bm
