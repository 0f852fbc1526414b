/- the library functions Mul64, LeadingZeros64, Sub64 as aC -/
import Derived.Test.YtommijghjlikkaaGreatBmExt
import Derived.Test.YtommijghjlikkaaGreatSeShelf
set_option linter.unusedVariables false
set_option linter.unusedSimpArgs false
namespace Go.Bm
open Go.Proofs Go.RowKit
def Gq:Int:=18446744073709551616
def inU (x:Int):Bool:=decide (0<=x)&&decide (x<Gq)
def Qa9:Sk:={tmps:=[TS.v false [CS.int .u64],TS.v false [CS.int .u64]],aB:=[],aC:=[]}
def Wd:Sk:={tmps:=[TS.tup [(false,[CS.int .u64]),(false,[CS.int .u64])]],aB:=[],aC:=[]}
def S1 (x y:Int):Option (List AC):=bif inU x&&inU y then some [.int .u64 (x*y/Gq), .int .u64 (x*y%Gq)]else none
def I2 (vars:List AC):Option (List AC):=S1 (Af (nth .vD vars 0)) (Af (nth .vD vars 1))
theorem Qxv:An Tryz.prog (175,Ad Qa9 Wd I2):=by
 refine Qir (ar:=λvars=>[(.u64,Af (nth .vD vars 0)),(.u64,Af (nth .vD vars 1))]) (val:=λo=> .tuple #[.int .u64 (Af (nth .vD o 0)), .int .u64 (Af (nth .vD o 1))]) rfl (λ_=>rfl) (λvars o D w=> ?_) (Qwj _ _);unfold I2 S1 at D;generalize Af (nth .vD vars 0)=x at D⊢;generalize Af (nth .vD vars 1)=y at D⊢;obtain⟨I,D⟩:=Ck D;simp only[inU,ak,cz]at I;obtain⟨⟨E,L⟩,G,M⟩:=I;have J:Gq=18446744073709551616:=rfl;simp only[av]at D;subst D;obtain⟨X,rfl⟩:=cg E;obtain⟨Y,rfl⟩:=cg G;refine .inl ⟨Ud (by kernel_rfl),?_⟩;refine(Tryz.bits_Mul64 X Y (by omega) (by omega) w).mono ?_;rintro e w' ⟨rfl,rfl⟩;refine⟨?_,rfl⟩;simp only[nth,Af,Gq];rfl
def Zdh:Sk:={tmps:=[TS.v false [CS.int .u64]],aB:=[],aC:=[]}
def Zcj:Sk:={tmps:=[TS.v false [CS.int .i64]],aB:=[],aC:=[]}
def Jt (vars:List AC):Option (List AC):=bif inU (Af (nth .vD vars 0))then some [.int .i64 (64-(Lib.bitLen (Af (nth .vD vars 0)).toNat:Int))]else none
theorem Z0k:An Tryz.prog (176,Ad Zdh Zcj Jt):=by
 refine Qir (ar:=λvars=>[(.u64,Af (nth .vD vars 0))]) (val:=λo=> .int .i64 (Af (nth .vD o 0))) rfl (λ_=>rfl) (λvars o D w=> ?_) (Ybf _);unfold Jt at D;generalize Af (nth .vD vars 0)=x at D⊢;obtain⟨E,D⟩:=Ck D;simp only[inU,ak,cz]at E;have G:Gq=18446744073709551616:=rfl;simp only[av]at D;subst D;refine .inl ⟨Ud (by kernel_rfl),?_⟩;refine(Tryz.bits_LeadingZeros64 x w E.1 (by omega)).mono ?_;rintro e w' ⟨rfl,rfl⟩;exact⟨rfl,rfl⟩
def Q3q:Sk:={tmps:=[TS.v false [CS.int .u64],TS.v false [CS.int .u64],TS.v false [CS.int .u64]],aB:=[],aC:=[]}
def Q6m:Sk:={tmps:=[TS.tup [(false,[CS.int .u64]),(false,[CS.int .u64])]],aB:=[],aC:=[]}
def K5 (vars:List AC):Option (List AC):=
 bif inU (Af (nth .vD vars 0))&&inU (Af (nth .vD vars 1))&&(decide (Af (nth .vD vars 2)=0)||decide (Af (nth .vD vars 2)=1))then
  some [.int .u64 ((Af (nth .vD vars 0)-Af (nth .vD vars 1)-Af (nth .vD vars 2))%Gq), .int .u64 (bif decide (Af (nth .vD vars 0)<Af (nth .vD vars 1)+Af (nth .vD vars 2))then 1 else 0)]else none
theorem Zxg:An Tryz.prog (222,Ad Q3q Q6m K5):=by
 refine Qir (ar:=λvars=>[(.u64,Af (nth .vD vars 0)),(.u64,Af (nth .vD vars 1)),(.u64,Af (nth .vD vars 2))]) (val:=λo=> .tuple #[.int .u64 (Af (nth .vD o 0)), .int .u64 (Af (nth .vD o 1))]) rfl (λ_=>rfl) (λvars o D w=> ?_) (Qwj _ _);unfold K5 at D;generalize Af (nth .vD vars 0)=x at D⊢;generalize Af (nth .vD vars 1)=y at D⊢;generalize Af (nth .vD vars 2)=b at D⊢;obtain⟨J,D⟩:=Ck D;simp only[inU,ak,kk,cz]at J;have E:Gq=18446744073709551616:=rfl;obtain⟨⟨⟨G,L⟩,I,M⟩,hb⟩:=J;simp only[av]at D;subst D;obtain⟨X,rfl⟩:=cg G;obtain⟨Y,rfl⟩:=cg I;obtain⟨B,rfl⟩:=cg (a:=b) (by omega);refine .inr ⟨_,w,?_,rfl,rfl⟩;have:=run_sub64 (P:=Tryz.prog) X Y B (by omega) w;show(callFunc 222 #[.int .u64 X, .int .u64 Y, .int .u64 B]).run Tryz.prog w=_;rw[run_callFunc_extern Tryz.func222 (by kernel_rfl) (by kernel_rfl) (by kernel_rfl) (e:=sub64Entry) (by kernel_rfl),this];have e1:(((X+18446744073709551616-Y-B)%18446744073709551616:Nat):Int)=((X:Int)-Y-B)%Gq:=by rw[E];omega
 have e2:((if X<Y+B then 1 else 0:Nat):Int)=(bif decide ((X:Int)<Y+B)then 1 else 0):=by
  by_cases h:X<Y+B
  ·rw[aa h,al (by omega)];rfl
  ·rw[ab h,am (by omega)];rfl
 rw[e1,e2];rfl
end Go.Bm
