/- the library functions Mul64, LeadingZeros64, Sub64 as aC -/
import Derived.Test.YtommijghjlikkaaGreatBmExt
import Derived.Test.YtommijghjlikkaaGreatSeShelf
set_option linter.unusedVariables false
set_option linter.unusedSimpArgs false
namespace Go.Bm
open Go.Proofs Go.RowKit
def Fx:Int:=18446744073709551616
def inU (x:Int):Bool:=decide (0<=x)&&decide (x<Fx)
def Qlt:Sk:={tmps:=[TS.v false [CS.int .u64],TS.v false [CS.int .u64]],aB:=[],aC:=[]}
def Qa4:Sk:={tmps:=[TS.tup [(false,[CS.int .u64]),(false,[CS.int .u64])]],aB:=[],aC:=[]}
def Ry (x y:Int):Option (List AC):=bif inU x&&inU y then some [.int .u64 (x*y/Fx), .int .u64 (x*y%Fx)]else none
def It (vars:List AC):Option (List AC):=Ry (Af (nth .dead vars 0)) (Af (nth .dead vars 1))
theorem Qpu:Ak Tryz.prog (175,Ac Qlt Qa4 It):=by
 refine Qcr (ar:=fun vars=>[(.u64,Af (nth .dead vars 0)),(.u64,Af (nth .dead vars 1))]) (val:=fun o=> .tuple #[.int .u64 (Af (nth .dead o 0)), .int .u64 (Af (nth .dead o 1))]) rfl (fun _=>rfl) (fun vars o ho w=> ?_) (Qvg _ _);unfold It Ry at ho;generalize Af (nth .dead vars 0)=x at ho⊢;generalize Af (nth .dead vars 1)=y at ho⊢;obtain⟨hc,ho⟩:=BZ ho;simp only[inU,Bool.and_eq_true,decide_eq_true_eq]at hc;obtain⟨⟨hx0,hx⟩,hy0,hy⟩:=hc;have e64:Fx=18446744073709551616:=rfl;simp only[Option.some.injEq]at ho;subst ho;obtain⟨X,rfl⟩:=Int.eq_ofNat_of_zero_le hx0;obtain⟨Y,rfl⟩:=Int.eq_ofNat_of_zero_le hy0;refine .inl ⟨R3 (by kernel_rfl),?_⟩;refine(Tryz.bits_Mul64 X Y (by omega) (by omega) w).mono ?_;rintro e w' ⟨rfl,rfl⟩;refine⟨?_,rfl⟩;simp only[nth,Af,Fx];rfl
def Qqx:Sk:={tmps:=[TS.v false [CS.int .u64]],aB:=[],aC:=[]}
def Q3e:Sk:={tmps:=[TS.v false [CS.int .i64]],aB:=[],aC:=[]}
def H_ (vars:List AC):Option (List AC):=bif inU (Af (nth .dead vars 0))then some [.int .i64 (64-(Lib.bitLen (Af (nth .dead vars 0)).toNat:Int))]else none
theorem Q9z:Ak Tryz.prog (176,Ac Qqx Q3e H_):=by
 refine Qcr (ar:=fun vars=>[(.u64,Af (nth .dead vars 0))]) (val:=fun o=> .int .i64 (Af (nth .dead o 0))) rfl (fun _=>rfl) (fun vars o ho w=> ?_) (Zbj _);unfold H_ at ho;generalize Af (nth .dead vars 0)=x at ho⊢;obtain⟨hc,ho⟩:=BZ ho;simp only[inU,Bool.and_eq_true,decide_eq_true_eq]at hc;have e64:Fx=18446744073709551616:=rfl;simp only[Option.some.injEq]at ho;subst ho;refine .inl ⟨R3 (by kernel_rfl),?_⟩;refine(Tryz.bits_LeadingZeros64 x w hc.1 (by omega)).mono ?_;rintro e w' ⟨rfl,rfl⟩;exact⟨rfl,rfl⟩
def Qpq:Sk:={tmps:=[TS.v false [CS.int .u64],TS.v false [CS.int .u64],TS.v false [CS.int .u64]],aB:=[],aC:=[]}
def Q0u:Sk:={tmps:=[TS.tup [(false,[CS.int .u64]),(false,[CS.int .u64])]],aB:=[],aC:=[]}
def JD (vars:List AC):Option (List AC):=
 bif inU (Af (nth .dead vars 0))&&inU (Af (nth .dead vars 1))&&(decide (Af (nth .dead vars 2)=0)||decide (Af (nth .dead vars 2)=1))then
  some [.int .u64 ((Af (nth .dead vars 0)-Af (nth .dead vars 1)-Af (nth .dead vars 2))%Fx), .int .u64 (bif decide (Af (nth .dead vars 0)<Af (nth .dead vars 1)+Af (nth .dead vars 2))then 1 else 0)]else none
theorem Zo8:Ak Tryz.prog (222,Ac Qpq Q0u JD):=by
 refine Qcr (ar:=fun vars=>[(.u64,Af (nth .dead vars 0)),(.u64,Af (nth .dead vars 1)),(.u64,Af (nth .dead vars 2))]) (val:=fun o=> .tuple #[.int .u64 (Af (nth .dead o 0)), .int .u64 (Af (nth .dead o 1))]) rfl (fun _=>rfl) (fun vars o ho w=> ?_) (Qvg _ _);unfold JD at ho;generalize Af (nth .dead vars 0)=x at ho⊢;generalize Af (nth .dead vars 1)=y at ho⊢;generalize Af (nth .dead vars 2)=b at ho⊢;obtain⟨hc,ho⟩:=BZ ho;simp only[inU,Bool.and_eq_true,Bool.or_eq_true,decide_eq_true_eq]at hc;have e64:Fx=18446744073709551616:=rfl;obtain⟨⟨⟨hx0,hx⟩,hy0,hy⟩,hb⟩:=hc;simp only[Option.some.injEq]at ho;subst ho;obtain⟨X,rfl⟩:=Int.eq_ofNat_of_zero_le hx0;obtain⟨Y,rfl⟩:=Int.eq_ofNat_of_zero_le hy0;obtain⟨B,rfl⟩:=Int.eq_ofNat_of_zero_le (a:=b) (by omega);refine .inr ⟨_,w,?_,rfl,rfl⟩;have:=run_sub64 (P:=Tryz.prog) X Y B (by omega) w;show(callFunc 222 #[.int .u64 X, .int .u64 Y, .int .u64 B]).run Tryz.prog w=_;rw[run_callFunc_extern Tryz.func222 (by kernel_rfl) (by kernel_rfl) (by kernel_rfl) (e:=sub64Entry) (by kernel_rfl),this];have e1:(((X+18446744073709551616-Y-B)%18446744073709551616:Nat):Int)=((X:Int)-Y-B)%Fx:=by rw[e64];omega
 have e2:((if X<Y+B then 1 else 0:Nat):Int)=(bif decide ((X:Int)<Y+B)then 1 else 0):=by
  by_cases h:X<Y+B
  ·rw[if_pos h,decide_eq_true (by omega)];rfl
  ·rw[if_neg h,decide_eq_false (by omega)];rfl
 rw[e1,e2];rfl
end Go.Bm
