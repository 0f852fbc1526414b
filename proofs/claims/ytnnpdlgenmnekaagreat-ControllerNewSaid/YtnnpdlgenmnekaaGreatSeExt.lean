/- the library functions Mul64, LeadingZeros64, Sub64 as aC -/
import Derived.Test.YtnnpdlgenmnekaaGreatBmExt
import Derived.Test.YtnnpdlgenmnekaaGreatSeShelf
set_option linter.unusedVariables false
set_option linter.unusedSimpArgs false
namespace Go.Bm
open Go.Proofs Go.RowKit
def ET:Int:=18446744073709551616
def inU (x:Int):Bool:=decide (0<=x)&&decide (x<ET)
def NX:Sk:={tmps:=[TS.v false [CS.int .u64],TS.v false [CS.int .u64]],aB:=[],aC:=[]}
def Nq:Sk:={tmps:=[TS.tup [(false,[CS.int .u64]),(false,[CS.int .u64])]],aB:=[],aC:=[]}
def PJ (x y:Int):Option (List AC):=bif inU x&&inU y then some [.int .u64 (x*y/ET), .int .u64 (x*y%ET)]else none
def FK (vars:List AC):Option (List AC):=PJ (Ah (nth .dead vars 0)) (Ah (nth .dead vars 1))
theorem UG:Ak Tryz.prog (181,Ad NX Nq FK):=by
 refine Qa9 (ar:=λvars=>[(.u64,Ah (nth .dead vars 0)),(.u64,Ah (nth .dead vars 1))]) (val:=λo=> .tuple #[.int .u64 (Ah (nth .dead o 0)), .int .u64 (Ah (nth .dead o 1))]) rfl (λ_=>rfl) (λvars o D w=> ?_) (Qmp _ _);unfold FK PJ at D;generalize Ah (nth .dead vars 0)=x at D⊢;generalize Ah (nth .dead vars 1)=y at D⊢;obtain⟨I,D⟩:=BI D;simp only[inU,al,bp]at I;obtain⟨⟨E,L⟩,G,M⟩:=I;have J:ET=18446744073709551616:=rfl;simp only[ap]at D;subst D;obtain⟨X,rfl⟩:=bj E;obtain⟨Y,rfl⟩:=bj G;refine .inl ⟨Oq (by kernel_rfl),?_⟩;refine(Tryz.bits_Mul64 X Y (by omega) (by omega) w).mono ?_;rintro e w' ⟨rfl,rfl⟩;refine⟨?_,rfl⟩;simp only[nth,Ah,ET];rfl
def RU:Sk:={tmps:=[TS.v false [CS.int .u64]],aB:=[],aC:=[]}
def RK:Sk:={tmps:=[TS.v false [CS.int .i64]],aB:=[],aC:=[]}
def Ge (vars:List AC):Option (List AC):=bif inU (Ah (nth .dead vars 0))then some [.int .i64 (64-(Lib.bitLen (Ah (nth .dead vars 0)).toNat:Int))]else none
theorem Qv1:Ak Tryz.prog (182,Ad RU RK Ge):=by
 refine Qa9 (ar:=λvars=>[(.u64,Ah (nth .dead vars 0))]) (val:=λo=> .int .i64 (Ah (nth .dead o 0))) rfl (λ_=>rfl) (λvars o D w=> ?_) (Zuq _);unfold Ge at D;generalize Ah (nth .dead vars 0)=x at D⊢;obtain⟨E,D⟩:=BI D;simp only[inU,al,bp]at E;have G:ET=18446744073709551616:=rfl;simp only[ap]at D;subst D;refine .inl ⟨Oq (by kernel_rfl),?_⟩;refine(Tryz.bits_LeadingZeros64 x w E.1 (by omega)).mono ?_;rintro e w' ⟨rfl,rfl⟩;exact⟨rfl,rfl⟩
def QH:Sk:={tmps:=[TS.v false [CS.int .u64],TS.v false [CS.int .u64],TS.v false [CS.int .u64]],aB:=[],aC:=[]}
def Q1:Sk:={tmps:=[TS.tup [(false,[CS.int .u64]),(false,[CS.int .u64])]],aB:=[],aC:=[]}
def G4 (vars:List AC):Option (List AC):=
 bif inU (Ah (nth .dead vars 0))&&inU (Ah (nth .dead vars 1))&&(decide (Ah (nth .dead vars 2)=0)||decide (Ah (nth .dead vars 2)=1))then
  some [.int .u64 ((Ah (nth .dead vars 0)-Ah (nth .dead vars 1)-Ah (nth .dead vars 2))%ET), .int .u64 (bif decide (Ah (nth .dead vars 0)<Ah (nth .dead vars 1)+Ah (nth .dead vars 2))then 1 else 0)]else none
theorem Qub:Ak Tryz.prog (259,Ad QH Q1 G4):=by
 refine Qa9 (ar:=λvars=>[(.u64,Ah (nth .dead vars 0)),(.u64,Ah (nth .dead vars 1)),(.u64,Ah (nth .dead vars 2))]) (val:=λo=> .tuple #[.int .u64 (Ah (nth .dead o 0)), .int .u64 (Ah (nth .dead o 1))]) rfl (λ_=>rfl) (λvars o D w=> ?_) (Qmp _ _);unfold G4 at D;generalize Ah (nth .dead vars 0)=x at D⊢;generalize Ah (nth .dead vars 1)=y at D⊢;generalize Ah (nth .dead vars 2)=b at D⊢;obtain⟨J,D⟩:=BI D;simp only[inU,al,ip,bp]at J;have E:ET=18446744073709551616:=rfl;obtain⟨⟨⟨G,L⟩,I,M⟩,hb⟩:=J;simp only[ap]at D;subst D;obtain⟨X,rfl⟩:=bj G;obtain⟨Y,rfl⟩:=bj I;obtain⟨B,rfl⟩:=bj (a:=b) (by omega);refine .inr ⟨_,w,?_,rfl,rfl⟩;have:=run_sub64 (P:=Tryz.prog) X Y B (by omega) w;show(callFunc 259 #[.int .u64 X, .int .u64 Y, .int .u64 B]).run Tryz.prog w=_;rw[run_callFunc_extern Tryz.func259 (by kernel_rfl) (by kernel_rfl) (by kernel_rfl) (e:=sub64Entry) (by kernel_rfl),this];have e1:(((X+18446744073709551616-Y-B)%18446744073709551616:Nat):Int)=((X:Int)-Y-B)%ET:=by rw[E];omega
 have e2:((if X<Y+B then 1 else 0:Nat):Int)=(bif decide ((X:Int)<Y+B)then 1 else 0):=by
  by_cases h:X<Y+B
  ·rw[aa h,ah (by omega)];rfl
  ·rw[ab h,aj (by omega)];rfl
 rw[e1,e2];rfl
end Go.Bm
