/- the library functions Mul64, LeadingZeros64, Sub64 as aC -/
import Derived.Test.YtommijghjlikkaaGreatBmExt
import Derived.Test.YtommijghjlikkaaGreatSeShelf
set_option linter.unusedVariables false
set_option linter.unusedSimpArgs false
namespace Go.Bm
open Go.Proofs Go.RowKit
def Fqs:Int:=18446744073709551616
def inU (x:Int):Bool:=decide (0<=x)&&decide (x<Fqs)
def Wc:Sk:={tmps:=[TS.v false [CS.int .u64],TS.v false [CS.int .u64]],aB:=[],aC:=[]}
def Qll:Sk:={tmps:=[TS.tup [(false,[CS.int .u64]),(false,[CS.int .u64])]],aB:=[],aC:=[]}
def RC (x y:Int):Option (List AC):=bif inU x&&inU y then some [.int .u64 (x*y/Fqs), .int .u64 (x*y%Fqs)]else none
def Ia (vars:List AC):Option (List AC):=RC (Af (nth .dead vars 0)) (Af (nth .dead vars 1))
theorem Qyy:Al Tryz.prog (175,Ad Wc Qll Ia):=by
 refine Qax (ar:=λvars=>[(.u64,Af (nth .dead vars 0)),(.u64,Af (nth .dead vars 1))]) (val:=λo=> .tuple #[.int .u64 (Af (nth .dead o 0)), .int .u64 (Af (nth .dead o 1))]) rfl (λ_=>rfl) (λvars o ho w=> ?_) (Qvz _ _);unfold Ia RC at ho;generalize Af (nth .dead vars 0)=x at ho⊢;generalize Af (nth .dead vars 1)=y at ho⊢;obtain⟨hc,ho⟩:=BY ho;simp only[inU,aj,bz]at hc;obtain⟨⟨hx0,hx⟩,hy0,hy⟩:=hc;have e64:Fqs=18446744073709551616:=rfl;simp only[ap]at ho;subst ho;obtain⟨X,rfl⟩:=bp hx0;obtain⟨Y,rfl⟩:=bp hy0;refine .inl ⟨UA (by kernel_rfl),?_⟩;refine(Tryz.bits_Mul64 X Y (by omega) (by omega) w).mono ?_;rintro e w' ⟨rfl,rfl⟩;refine⟨?_,rfl⟩;simp only[nth,Af,Fqs];rfl
def Q69:Sk:={tmps:=[TS.v false [CS.int .u64]],aB:=[],aC:=[]}
def Q7w:Sk:={tmps:=[TS.v false [CS.int .i64]],aB:=[],aC:=[]}
def Io (vars:List AC):Option (List AC):=bif inU (Af (nth .dead vars 0))then some [.int .i64 (64-(Lib.bitLen (Af (nth .dead vars 0)).toNat:Int))]else none
theorem Zuh:Al Tryz.prog (176,Ad Q69 Q7w Io):=by
 refine Qax (ar:=λvars=>[(.u64,Af (nth .dead vars 0))]) (val:=λo=> .int .i64 (Af (nth .dead o 0))) rfl (λ_=>rfl) (λvars o ho w=> ?_) (Zfd _);unfold Io at ho;generalize Af (nth .dead vars 0)=x at ho⊢;obtain⟨hc,ho⟩:=BY ho;simp only[inU,aj,bz]at hc;have e64:Fqs=18446744073709551616:=rfl;simp only[ap]at ho;subst ho;refine .inl ⟨UA (by kernel_rfl),?_⟩;refine(Tryz.bits_LeadingZeros64 x w hc.1 (by omega)).mono ?_;rintro e w' ⟨rfl,rfl⟩;exact⟨rfl,rfl⟩
def Q65:Sk:={tmps:=[TS.v false [CS.int .u64],TS.v false [CS.int .u64],TS.v false [CS.int .u64]],aB:=[],aC:=[]}
def Qv2:Sk:={tmps:=[TS.tup [(false,[CS.int .u64]),(false,[CS.int .u64])]],aB:=[],aC:=[]}
def KS (vars:List AC):Option (List AC):=
 bif inU (Af (nth .dead vars 0))&&inU (Af (nth .dead vars 1))&&(decide (Af (nth .dead vars 2)=0)||decide (Af (nth .dead vars 2)=1))then
  some [.int .u64 ((Af (nth .dead vars 0)-Af (nth .dead vars 1)-Af (nth .dead vars 2))%Fqs), .int .u64 (bif decide (Af (nth .dead vars 0)<Af (nth .dead vars 1)+Af (nth .dead vars 2))then 1 else 0)]else none
theorem Z3u:Al Tryz.prog (222,Ad Q65 Qv2 KS):=by
 refine Qax (ar:=λvars=>[(.u64,Af (nth .dead vars 0)),(.u64,Af (nth .dead vars 1)),(.u64,Af (nth .dead vars 2))]) (val:=λo=> .tuple #[.int .u64 (Af (nth .dead o 0)), .int .u64 (Af (nth .dead o 1))]) rfl (λ_=>rfl) (λvars o ho w=> ?_) (Qvz _ _);unfold KS at ho;generalize Af (nth .dead vars 0)=x at ho⊢;generalize Af (nth .dead vars 1)=y at ho⊢;generalize Af (nth .dead vars 2)=b at ho⊢;obtain⟨hc,ho⟩:=BY ho;simp only[inU,aj,Bool.or_eq_true,bz]at hc;have e64:Fqs=18446744073709551616:=rfl;obtain⟨⟨⟨hx0,hx⟩,hy0,hy⟩,hb⟩:=hc;simp only[ap]at ho;subst ho;obtain⟨X,rfl⟩:=bp hx0;obtain⟨Y,rfl⟩:=bp hy0;obtain⟨B,rfl⟩:=bp (a:=b) (by omega);refine .inr ⟨_,w,?_,rfl,rfl⟩;have:=run_sub64 (P:=Tryz.prog) X Y B (by omega) w;show(callFunc 222 #[.int .u64 X, .int .u64 Y, .int .u64 B]).run Tryz.prog w=_;rw[run_callFunc_extern Tryz.func222 (by kernel_rfl) (by kernel_rfl) (by kernel_rfl) (e:=sub64Entry) (by kernel_rfl),this];have e1:(((X+18446744073709551616-Y-B)%18446744073709551616:Nat):Int)=((X:Int)-Y-B)%Fqs:=by rw[e64];omega
 have e2:((if X<Y+B then 1 else 0:Nat):Int)=(bif decide ((X:Int)<Y+B)then 1 else 0):=by
  by_cases h:X<Y+B
  ·rw[aa h,al (by omega)];rfl
  ·rw[ab h,am (by omega)];rfl
 rw[e1,e2];rfl
end Go.Bm
