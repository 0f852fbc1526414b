/- the library functions Mul64, LeadingZeros64, Sub64 as aC -/
import Derived.Test.YtommijghjlikkaaGreatBmExt
import Derived.Test.YtommijghjlikkaaGreatSeShelf
set_option linter.unusedVariables false
set_option linter.unusedSimpArgs false
namespace Go.Bm
open Go.Proofs Go.RowKit
def Gf:Int:=18446744073709551616
def inU (x:Int):Bool:=decide (0<=x)&&decide (x<Gf)
def Qas:Sk:={tmps:=[TS.v false [CS.int .u64],TS.v false [CS.int .u64]],aB:=[],aC:=[]}
def V8:Sk:={tmps:=[TS.tup [(false,[CS.int .u64]),(false,[CS.int .u64])]],aB:=[],aC:=[]}
def SP (x y:Int):Option (List AC):=bif inU x&&inU y then some [.int .u64 (x*y/Gf), .int .u64 (x*y%Gf)]else none
def IJ (vars:List AC):Option (List AC):=SP (Ah (nth .dead vars 0)) (Ah (nth .dead vars 1))
theorem Qwq:Am Tryz.prog (175,Ad Qas V8 IJ):=by
 refine Qh6 (ar:=λvars=>[(.u64,Ah (nth .dead vars 0)),(.u64,Ah (nth .dead vars 1))]) (val:=λo=> .tuple #[.int .u64 (Ah (nth .dead o 0)), .int .u64 (Ah (nth .dead o 1))]) rfl (λ_=>rfl) (λvars o E w=> ?_) (Qve _ _);unfold IJ SP at E;generalize Ah (nth .dead vars 0)=x at E⊢;generalize Ah (nth .dead vars 1)=y at E⊢;obtain⟨J,E⟩:=Cl E;simp only[inU,al,da]at J;obtain⟨⟨G,N⟩,I,O⟩:=J;have M:Gf=18446744073709551616:=rfl;simp only[ap]at E;subst E;obtain⟨X,rfl⟩:=cg G;obtain⟨Y,rfl⟩:=cg I;refine .inl ⟨T8 (by kernel_rfl),?_⟩;refine(Tryz.bits_Mul64 X Y (by omega) (by omega) w).mono ?_;rintro e w' ⟨rfl,rfl⟩;refine⟨?_,rfl⟩;simp only[nth,Ah,Gf];rfl
def Zbp:Sk:={tmps:=[TS.v false [CS.int .u64]],aB:=[],aC:=[]}
def Zan:Sk:={tmps:=[TS.v false [CS.int .i64]],aB:=[],aC:=[]}
def Jg (vars:List AC):Option (List AC):=bif inU (Ah (nth .dead vars 0))then some [.int .i64 (64-(Lib.bitLen (Ah (nth .dead vars 0)).toNat:Int))]else none
theorem Zyd:Am Tryz.prog (176,Ad Zbp Zan Jg):=by
 refine Qh6 (ar:=λvars=>[(.u64,Ah (nth .dead vars 0))]) (val:=λo=> .int .i64 (Ah (nth .dead o 0))) rfl (λ_=>rfl) (λvars o E w=> ?_) (Z9i _);unfold Jg at E;generalize Ah (nth .dead vars 0)=x at E⊢;obtain⟨G,E⟩:=Cl E;simp only[inU,al,da]at G;have I:Gf=18446744073709551616:=rfl;simp only[ap]at E;subst E;refine .inl ⟨T8 (by kernel_rfl),?_⟩;refine(Tryz.bits_LeadingZeros64 x w G.1 (by omega)).mono ?_;rintro e w' ⟨rfl,rfl⟩;exact⟨rfl,rfl⟩
def Q2g:Sk:={tmps:=[TS.v false [CS.int .u64],TS.v false [CS.int .u64],TS.v false [CS.int .u64]],aB:=[],aC:=[]}
def Q5b:Sk:={tmps:=[TS.tup [(false,[CS.int .u64]),(false,[CS.int .u64])]],aB:=[],aC:=[]}
def KT (vars:List AC):Option (List AC):=
 bif inU (Ah (nth .dead vars 0))&&inU (Ah (nth .dead vars 1))&&(decide (Ah (nth .dead vars 2)=0)||decide (Ah (nth .dead vars 2)=1))then
  some [.int .u64 ((Ah (nth .dead vars 0)-Ah (nth .dead vars 1)-Ah (nth .dead vars 2))%Gf), .int .u64 (bif decide (Ah (nth .dead vars 0)<Ah (nth .dead vars 1)+Ah (nth .dead vars 2))then 1 else 0)]else none
theorem Zvh:Am Tryz.prog (222,Ad Q2g Q5b KT):=by
 refine Qh6 (ar:=λvars=>[(.u64,Ah (nth .dead vars 0)),(.u64,Ah (nth .dead vars 1)),(.u64,Ah (nth .dead vars 2))]) (val:=λo=> .tuple #[.int .u64 (Ah (nth .dead o 0)), .int .u64 (Ah (nth .dead o 1))]) rfl (λ_=>rfl) (λvars o E w=> ?_) (Qve _ _);unfold KT at E;generalize Ah (nth .dead vars 0)=x at E⊢;generalize Ah (nth .dead vars 1)=y at E⊢;generalize Ah (nth .dead vars 2)=b at E⊢;obtain⟨M,E⟩:=Cl E;simp only[inU,al,jp,da]at M;have G:Gf=18446744073709551616:=rfl;obtain⟨⟨⟨I,N⟩,J,O⟩,hb⟩:=M;simp only[ap]at E;subst E;obtain⟨X,rfl⟩:=cg I;obtain⟨Y,rfl⟩:=cg J;obtain⟨B,rfl⟩:=cg (a:=b) (by omega);refine .inr ⟨_,w,?_,rfl,rfl⟩;have:=run_sub64 (P:=Tryz.prog) X Y B (by omega) w;show(callFunc 222 #[.int .u64 X, .int .u64 Y, .int .u64 B]).run Tryz.prog w=_;rw[run_callFunc_extern Tryz.func222 (by kernel_rfl) (by kernel_rfl) (by kernel_rfl) (e:=sub64Entry) (by kernel_rfl),this];have e1:(((X+18446744073709551616-Y-B)%18446744073709551616:Nat):Int)=((X:Int)-Y-B)%Gf:=by rw[G];omega
 have e2:((if X<Y+B then 1 else 0:Nat):Int)=(bif decide ((X:Int)<Y+B)then 1 else 0):=by
  by_cases h:X<Y+B
  ·rw[ab h,am (by omega)];rfl
  ·rw[aa h,an (by omega)];rfl
 rw[e1,e2];rfl
end Go.Bm
