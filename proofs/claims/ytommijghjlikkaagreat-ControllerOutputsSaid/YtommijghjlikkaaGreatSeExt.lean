/- the library functions Mul64, LeadingZeros64, Sub64 as aB -/
import Derived.Test.YtommijghjlikkaaGreatBmExt
import Derived.Test.YtommijghjlikkaaGreatSeShelf
set_option linter.unusedVariables false
set_option linter.unusedSimpArgs false
namespace Go.Bm
open Go.Proofs Go.RowKit
def Ge:Int:=18446744073709551616
def inU (x:Int):Bool:=decide (0<=x)&&decide (x<Ge)
def ZL:Sk:={tmps:=[TS.v false [CS.int .u64],TS.v false [CS.int .u64]],aA:=[],aB:=[]}
def Vi:Sk:={tmps:=[TS.tup [(false,[CS.int .u64]),(false,[CS.int .u64])]],aA:=[],aB:=[]}
def Sa (x y:Int):Option (List AC):=bif inU x&&inU y then some [.int .u64 (x*y/Ge), .int .u64 (x*y%Ge)]else none
def II (vars:List AC):Option (List AC):=Sa (Af (nth .dead vars 0)) (Af (nth .dead vars 1))
theorem Qvv:Am Tryz.prog (175,Ad ZL Vi II):=by
 refine Qgv (ar:=λvars=>[(.u64,Af (nth .dead vars 0)),(.u64,Af (nth .dead vars 1))]) (val:=λo=> .tuple #[.int .u64 (Af (nth .dead o 0)), .int .u64 (Af (nth .dead o 1))]) rfl (λ_=>rfl) (λvars o D w=> ?_) (Quk _ _);unfold II Sa at D;generalize Af (nth .dead vars 0)=x at D⊢;generalize Af (nth .dead vars 1)=y at D⊢;obtain⟨I,D⟩:=Cc D;simp only[inU,ak,cq]at I;obtain⟨⟨E,L⟩,G,M⟩:=I;have J:Ge=18446744073709551616:=rfl;simp only[ap]at D;subst D;obtain⟨X,rfl⟩:=bv E;obtain⟨Y,rfl⟩:=bv G;refine .inl ⟨Td (by kernel_rfl),?_⟩;refine(Tryz.bits_Mul64 X Y (by omega) (by omega) w).mono ?_;rintro e w' ⟨rfl,rfl⟩;refine⟨?_,rfl⟩;simp only[nth,Af,Ge];rfl
def Zap:Sk:={tmps:=[TS.v false [CS.int .u64]],aA:=[],aB:=[]}
def Q9s:Sk:={tmps:=[TS.v false [CS.int .i64]],aA:=[],aB:=[]}
def I8 (vars:List AC):Option (List AC):=bif inU (Af (nth .dead vars 0))then some [.int .i64 (64-(Lib.bitLen (Af (nth .dead vars 0)).toNat:Int))]else none
theorem Zxj:Am Tryz.prog (176,Ad Zap Q9s I8):=by
 refine Qgv (ar:=λvars=>[(.u64,Af (nth .dead vars 0))]) (val:=λo=> .int .i64 (Af (nth .dead o 0))) rfl (λ_=>rfl) (λvars o D w=> ?_) (Z8h _);unfold I8 at D;generalize Af (nth .dead vars 0)=x at D⊢;obtain⟨E,D⟩:=Cc D;simp only[inU,ak,cq]at E;have G:Ge=18446744073709551616:=rfl;simp only[ap]at D;subst D;refine .inl ⟨Td (by kernel_rfl),?_⟩;refine(Tryz.bits_LeadingZeros64 x w E.1 (by omega)).mono ?_;rintro e w' ⟨rfl,rfl⟩;exact⟨rfl,rfl⟩
def Q09:Sk:={tmps:=[TS.v false [CS.int .u64],TS.v false [CS.int .u64],TS.v false [CS.int .u64]],aA:=[],aB:=[]}
def Q33:Sk:={tmps:=[TS.tup [(false,[CS.int .u64]),(false,[CS.int .u64])]],aA:=[],aB:=[]}
def KP (vars:List AC):Option (List AC):=
 bif inU (Af (nth .dead vars 0))&&inU (Af (nth .dead vars 1))&&(decide (Af (nth .dead vars 2)=0)||decide (Af (nth .dead vars 2)=1))then
  some [.int .u64 ((Af (nth .dead vars 0)-Af (nth .dead vars 1)-Af (nth .dead vars 2))%Ge), .int .u64 (bif decide (Af (nth .dead vars 0)<Af (nth .dead vars 1)+Af (nth .dead vars 2))then 1 else 0)]else none
theorem Zuh:Am Tryz.prog (222,Ad Q09 Q33 KP):=by
 refine Qgv (ar:=λvars=>[(.u64,Af (nth .dead vars 0)),(.u64,Af (nth .dead vars 1)),(.u64,Af (nth .dead vars 2))]) (val:=λo=> .tuple #[.int .u64 (Af (nth .dead o 0)), .int .u64 (Af (nth .dead o 1))]) rfl (λ_=>rfl) (λvars o D w=> ?_) (Quk _ _);unfold KP at D;generalize Af (nth .dead vars 0)=x at D⊢;generalize Af (nth .dead vars 1)=y at D⊢;generalize Af (nth .dead vars 2)=b at D⊢;obtain⟨J,D⟩:=Cc D;simp only[inU,ak,Bool.or_eq_true,cq]at J;have E:Ge=18446744073709551616:=rfl;obtain⟨⟨⟨G,L⟩,I,M⟩,hb⟩:=J;simp only[ap]at D;subst D;obtain⟨X,rfl⟩:=bv G;obtain⟨Y,rfl⟩:=bv I;obtain⟨B,rfl⟩:=bv (a:=b) (by omega);refine .inr ⟨_,w,?_,rfl,rfl⟩;have:=run_sub64 (P:=Tryz.prog) X Y B (by omega) w;show(callFunc 222 #[.int .u64 X, .int .u64 Y, .int .u64 B]).run Tryz.prog w=_;rw[run_callFunc_extern Tryz.func222 (by kernel_rfl) (by kernel_rfl) (by kernel_rfl) (e:=sub64Entry) (by kernel_rfl),this];have e1:(((X+18446744073709551616-Y-B)%18446744073709551616:Nat):Int)=((X:Int)-Y-B)%Ge:=by rw[E];omega
 have e2:((if X<Y+B then 1 else 0:Nat):Int)=(bif decide ((X:Int)<Y+B)then 1 else 0):=by
  by_cases h:X<Y+B
  ·rw[aa h,al (by omega)];rfl
  ·rw[ab h,am (by omega)];rfl
 rw[e1,e2];rfl
end Go.Bm
