/- parts of the program that are told by hand -/
import Derived.Test.YtnnpdlgenmnekaaGreatDoorBmTy
import Derived.Shelf.Spec.BitsCarry
import Derived.Shelf.Small.Bits
import Derived.Shelf.Strings.BuilderK
import Derived.Shelf.Strconv.Itoa0
import Derived.Shelf.LaysM
import Derived.Shelf.Strconv.Itoa3
import Derived.Shelf.Bits.Mul64
import Derived.Test.YtnnpdlgenmnekaaGreatDoorProg
import Derived.Test.YtnnpdlgenmnekaaGreatDoorBmFz
import Derived.WalkKit
set_option linter.unusedVariables false
set_option linter.unusedSimpArgs false
set_option linter.defProp false
namespace Go.Bm
open Go.RowKit
def XP (k:IntKind×Int):TV:= .v false [.int k.1 k.2]
def Wc (k:IntKind×Int):Value:= .int k.1 k.2
def Qoh {Z:Base} {l:List (IntKind×Int)} {ρ:Env} {xs:List Value} {w:World} (h:RelE Z (l.map XP) [] [] ρ xs.toArray w):xs=l.map Wc:=by
 apply ia;intro i;have G:l.length=xs.length:=by have:=h.tl;simpa using this
 by_cases I:i<l.length
 ·have L:i<xs.length:=by omega
  have:=h.tv i (XP l[i]) (by grind);obtain⟨a,D,M⟩:=this;simp only[gf,and_true]at D;subst D;simp_all [CC,CP,Wc]
 grind
def Qeb {P:Program} {f:FuncId} {sig G:Sk} {m:List AC->Option (List AC)} {ar:List AC->List (IntKind×Int)} {val:List AC->Value} (V:sig.okB=true)
  (X:∀vars,AG sig vars=⟨(ar vars).map XP,[],[]⟩)
  (I:∀vars o,m vars=some o->∀w,CallsX P f ((ar vars).map Wc).toArray w λe w'=>e= .returned (val o)/\w'=w)
  (L:∀o,∃tv,AG G o=⟨[tv],[],[]⟩/\(∀ρ w,TVR ρ w tv (val o))/\TV.wf [] [] tv):Bx P (f,Ah sig G m):=by
 refine⟨SM,λargs mem v mem' h=> ?_⟩;obtain⟨aB,aC⟩:=mem;simp only[Ah]at h;obtain⟨M,h⟩:=BY h;split at h
 ·rename_i vars U;simp only[bp]at h;obtain⟨o,Y,h⟩:=h;obtain⟨tv,hb,ht,a0⟩:=L o;rw[hb]at h;simp only[bm,ja]at h;obtain⟨rfl,rfl⟩:=h;intro F w hG ρ xs N;have D:=N.rebuild (Pc M) V U;rw[X]at D;dsimp only at D;have O:=Qoh D;subst O;refine(I vars o Y w).mono ?_;rintro e w' ⟨rfl,rfl⟩;refine⟨val o,ρ,rfl,⟨rfl,λi v hi=> ?_,λv U=> ?_,D.wb,D.bx,D.bi,D.ro,D.ri,D.br,D.ib,D.fr,D.fs,D.i0,D.i1,D.k0⟩⟩
  ·cases i with
   |zero=>simp_all
   |succ i=>grind
  grind
 grind
def Yef (k:IntKind) (o:List AC):∃tv,AG ⟨[TS.v false [CS.int k]],[],[]⟩ o=⟨[tv],[],[]⟩/\(∀ρ w,TVR ρ w tv (.int k (Af (nth .vD o 0))))/\TV.wf [] [] tv:=
 ⟨_,rfl,λρ w=>⟨_,rfl,rfl⟩,by intro a D;simp at D;subst D;trivial⟩
def Qpe (k k':IntKind) (o:List AC):∃tv,AG ⟨[TS.tup [(false,[CS.int k]),(false,[CS.int k'])]],[],[]⟩ o=⟨[tv],[],[]⟩/\
  (∀ρ w,TVR ρ w tv (.tuple #[.int k (Af (nth .vD o 0)), .int k' (Af (nth .vD o 1))]))/\TV.wf [] [] tv:=
 ⟨_,rfl,λρ w=>⟨_,rfl,⟨⟨_,rfl,rfl⟩,⟨_,rfl,rfl⟩,trivial⟩⟩,by intro p D a G;simp at D;rcases D with rfl|rfl<;>(simp at G;subst G;trivial)⟩
end Go.Bm
namespace Go.Proofs
open Go.Shelf
def Tryz.lays169_ren:Go.Shelf.Ren:=⟨fun|169=>77|n=>n,fun|70=>138|9=>9|0=>0|72=>141|37=>139|127=>194|3=>3|5=>5|n=>n,fun|n=>n⟩
def Tryz.lays169:Go.Proofs.Lays.n169 Tryz.prog Tryz.lays169_ren:={
 mixed:=by kernel_rfl
 f169:=Tryz.func77.trans (congrArg some (by kernel_rfl))
 t0:=Tryz.underlying0
 a0:=Tryz.isAgg0
 z0:=Tryz.sizeOf0
 v0:=Tryz.zeroValue0
 t3:=Tryz.underlying3
 a3:=Tryz.isAgg3
 z3:=Tryz.sizeOf3
 v3:=Tryz.zeroValue3
 t9:=Tryz.underlying9
 a9:=Tryz.isAgg9
 z9:=Tryz.sizeOf9
 v9:=Tryz.zeroValue9
 t37:=Tryz.underlying139
 a37:=Tryz.isAgg139
 z37:=Tryz.sizeOf139
 v37:=Tryz.zeroValue139
 t70:=Tryz.underlying138
 a70:=Tryz.isAgg138
 z70:=Tryz.sizeOf138
 v70:=Tryz.zeroValue138
 t72:=Tryz.underlying141
 a72:=Tryz.isAgg141
 z72:=Tryz.sizeOf141
 v72:=Tryz.zeroValue141
 t127:=Tryz.underlying194
 a127:=Tryz.isAgg194
 z127:=Tryz.sizeOf194
 v127:=Tryz.zeroValue194}
def Tryz.Builder_Extra_169:Builder.Extra Tryz.prog Tryz.lays169_ren:={
 sizeBuilder:=by kernel_rfl
 liesBuilder:=by kernel_rfl
 t5:=Tryz.underlying5
 a5:=Tryz.isAgg5
 z5:=Tryz.sizeOf5
 v5:=Tryz.zeroValue5
 infoByte:=by kernel_rfl
 cellsByte:=by kernel_rfl
 sizeByte:=by kernel_rfl
 neB5:=by decide}
def Tryz.lays134_ren:Go.Shelf.Ren:=⟨fun|134=>172|129=>229|n=>n,fun|53=>195|3=>3|4=>4|46=>230|5=>5|9=>9|n=>n,fun|n=>n⟩
def Tryz.lays134:Go.Proofs.Lays.n134 Tryz.prog Tryz.lays134_ren:={
 mixed:=by kernel_rfl
 f129:=Tryz.func229.trans (congrArg some (by kernel_rfl))
 f134:=Tryz.func172.trans (congrArg some (by kernel_rfl))
 t3:=Tryz.underlying3
 a3:=Tryz.isAgg3
 z3:=Tryz.sizeOf3
 v3:=Tryz.zeroValue3
 t4:=Tryz.underlying4
 a4:=Tryz.isAgg4
 z4:=Tryz.sizeOf4
 v4:=Tryz.zeroValue4
 t5:=Tryz.underlying5
 a5:=Tryz.isAgg5
 z5:=Tryz.sizeOf5
 v5:=Tryz.zeroValue5
 t9:=Tryz.underlying9
 a9:=Tryz.isAgg9
 z9:=Tryz.sizeOf9
 v9:=Tryz.zeroValue9
 t46:=Tryz.underlying230
 a46:=Tryz.isAgg230
 z46:=Tryz.sizeOf230
 v46:=Tryz.zeroValue230
 t53:=Tryz.underlying195
 a53:=Tryz.isAgg195
 z53:=Tryz.sizeOf195
 v53:=Tryz.zeroValue195}
def Tryz.bits_LeadingZeros64 (x:Int) (w:World) (h0:0<=x) (h1:x<=18446744073709551615):
  Calls Tryz.prog 172 #[.int .u64 x] w λe w'=>e= .returned (.int .i64 (64-(Lib.bitLen x.toNat:Int)))/\w'=w:=Any.bits_LeadingZeros64 Tryz.lays134 x w h0 h1
def Tryz.laysM171_ren:Go.Shelf.Ren:=⟨fun|171=>122|243=>170|246=>228|283=>256|284=>257|285=>258|286=>259|129=>229|317=>280|318=>281|319=>282|320=>283|337=>293|338=>294|n=>n,fun|3=>3|9=>9|2=>2|4=>4|171=>298|0=>0|53=>195|37=>139|5=>5|173=>300|212=>314|51=>315|20=>20|213=>316|46=>230|232=>327|233=>328|n=>n,fun|17=>2|18=>3|19=>4|n=>n⟩
def Tryz.laysM171:Go.Proofs.LaysM.n171 Tryz.prog Tryz.laysM171_ren:={
 mixed:=by kernel_rfl
 f129:=Tryz.func229.trans (congrArg some (by kernel_rfl))
 f171:=Tryz.func122.trans (congrArg some (by kernel_rfl))
 f243:=Tryz.func170.trans (congrArg some (by kernel_rfl))
 f246:=Tryz.func228.trans (congrArg some (by kernel_rfl))
 f283:=Tryz.func256.trans (congrArg some (by kernel_rfl))
 f284:=Tryz.func257.trans (congrArg some (by kernel_rfl))
 f285:=Tryz.func258.trans (congrArg some (by kernel_rfl))
 f286:=Tryz.func259.trans (congrArg some (by kernel_rfl))
 f317:=Tryz.func280.trans (congrArg some (by kernel_rfl))
 f318:=Tryz.func281.trans (congrArg some (by kernel_rfl))
 f319:=Tryz.func282.trans (congrArg some (by kernel_rfl))
 f320:=Tryz.func283.trans (congrArg some (by kernel_rfl))
 f337:=Tryz.func293.trans (congrArg some (by kernel_rfl))
 f338:=Tryz.func294.trans (congrArg some (by kernel_rfl))
 t0:=Tryz.underlying0
 a0:=Tryz.isAgg0
 z0:=Tryz.sizeOf0
 v0:=Tryz.zeroValue0
 t2:=Tryz.underlying2
 a2:=Tryz.isAgg2
 z2:=Tryz.sizeOf2
 v2:=Tryz.zeroValue2
 t3:=Tryz.underlying3
 a3:=Tryz.isAgg3
 z3:=Tryz.sizeOf3
 v3:=Tryz.zeroValue3
 t4:=Tryz.underlying4
 a4:=Tryz.isAgg4
 z4:=Tryz.sizeOf4
 v4:=Tryz.zeroValue4
 t5:=Tryz.underlying5
 a5:=Tryz.isAgg5
 z5:=Tryz.sizeOf5
 v5:=Tryz.zeroValue5
 t9:=Tryz.underlying9
 a9:=Tryz.isAgg9
 z9:=Tryz.sizeOf9
 v9:=Tryz.zeroValue9
 t20:=Tryz.underlying20
 a20:=Tryz.isAgg20
 z20:=Tryz.sizeOf20
 v20:=Tryz.zeroValue20
 t37:=Tryz.underlying139
 a37:=Tryz.isAgg139
 z37:=Tryz.sizeOf139
 v37:=Tryz.zeroValue139
 t46:=Tryz.underlying230
 a46:=Tryz.isAgg230
 z46:=Tryz.sizeOf230
 v46:=Tryz.zeroValue230
 t51:=Tryz.underlying315
 a51:=Tryz.isAgg315
 z51:=Tryz.sizeOf315
 v51:=Tryz.zeroValue315
 t53:=Tryz.underlying195
 a53:=Tryz.isAgg195
 z53:=Tryz.sizeOf195
 v53:=Tryz.zeroValue195
 t171:=Tryz.underlying298
 a171:=Tryz.isAgg298
 z171:=Tryz.sizeOf298
 v171:=Tryz.zeroValue298
 t173:=Tryz.underlying300
 a173:=Tryz.isAgg300
 z173:=Tryz.sizeOf300
 v173:=Tryz.zeroValue300
 t212:=Tryz.underlying314
 a212:=Tryz.isAgg314
 z212:=Tryz.sizeOf314
 v212:=Tryz.zeroValue314
 t213:=Tryz.underlying316
 a213:=Tryz.isAgg316
 z213:=Tryz.sizeOf316
 t232:=Tryz.underlying327
 a232:=Tryz.isAgg327
 z232:=Tryz.sizeOf327
 v232:=Tryz.zeroValue327
 t233:=Tryz.underlying328
 a233:=Tryz.isAgg328
 z233:=Tryz.sizeOf328
 v233:=Tryz.zeroValue328
 g17:=by kernel_rfl
 g18:=by kernel_rfl
 g19:=by kernel_rfl
 i0:=by kernel_rfl
 i2:=by kernel_rfl
 i3:=by kernel_rfl
 i4:=by kernel_rfl
 i5:=by kernel_rfl
 i9:=by kernel_rfl
 i20:=by kernel_rfl
 i37:=by kernel_rfl
 i46:=by kernel_rfl
 i51:=by kernel_rfl
 i53:=by kernel_rfl
 i171:=by kernel_rfl
 i173:=by kernel_rfl
 i212:=by kernel_rfl
 i232:=by kernel_rfl
 i233:=by kernel_rfl
 m17:=by kernel_rfl
 m18:=by kernel_rfl
 m19:=by kernel_rfl}
def Tryz.lays264_ren:Go.Shelf.Ren:=⟨fun|264=>171|n=>n,fun|53=>195|46=>230|n=>n,fun|n=>n⟩
def Tryz.lays264:Go.Proofs.Lays.n264 Tryz.prog Tryz.lays264_ren:={
 mixed:=by kernel_rfl
 f264:=Tryz.func171.trans (congrArg some (by kernel_rfl))
 t46:=Tryz.underlying230
 a46:=Tryz.isAgg230
 z46:=Tryz.sizeOf230
 v46:=Tryz.zeroValue230
 t53:=Tryz.underlying195
 a53:=Tryz.isAgg195
 z53:=Tryz.sizeOf195
 v53:=Tryz.zeroValue195}
def Tryz.bits_Mul64 (x y:Nat) (hx:x<18446744073709551616) (hy:y<18446744073709551616) (w:World):
  Calls Tryz.prog 171 #[.int .u64 x, .int .u64 y] w λe w'=>e= .returned (.tuple #[.int .u64 ((x*y/18446744073709551616:Nat):Int), .int .u64 ((x*y%18446744073709551616:Nat):Int)])/\w'=w:=Any.bits_Mul64 Tryz.lays264 x y hx hy w
end Go.Proofs
namespace Go.Bm
open Go.Proofs Go.RowKit
def F8:Int:=18446744073709551616
def inU (x:Int):Bool:=decide (0<=x)&&decide (x<F8)
def UW:Sk:={tmps:=[TS.v false [CS.int .u64],TS.v false [CS.int .u64]],aB:=[],aC:=[]}
def TG:Sk:={tmps:=[TS.tup [(false,[CS.int .u64]),(false,[CS.int .u64])]],aB:=[],aC:=[]}
def T6 (x y:Int):Option (List AC):=bif inU x&&inU y then some [.int .u64 (x*y/F8), .int .u64 (x*y%F8)]else none
def JO (vars:List AC):Option (List AC):=T6 (Af (nth .vD vars 0)) (Af (nth .vD vars 1))
def Zsm:Bx Tryz.prog (171,Ah UW TG JO):=by
 refine Qeb (ar:=λvars=>[(.u64,Af (nth .vD vars 0)),(.u64,Af (nth .vD vars 1))]) (val:=λo=> .tuple #[.int .u64 (Af (nth .vD o 0)), .int .u64 (Af (nth .vD o 1))]) rfl (λ_=>rfl) (λvars o D w=> ?_) (Qpe _ _);unfold JO T6 at D;generalize Af (nth .vD vars 0)=x at D⊢;generalize Af (nth .vD vars 1)=y at D⊢;obtain⟨L,D⟩:=BY D;simp only[inU,ak,dx]at L;obtain⟨⟨G,N⟩,I,O⟩:=L;have M:F8=18446744073709551616:=rfl;simp only[bm]at D;subst D;obtain⟨X,rfl⟩:=bh G;obtain⟨Y,rfl⟩:=bh I;refine .inl ⟨JU (by kernel_rfl),?_⟩;refine(Tryz.bits_Mul64 X Y (by omega) (by omega) w).mono ?_;rintro e w' ⟨rfl,rfl⟩;refine⟨?_,rfl⟩;simp only[nth,Af,F8];rfl
def Qij:Sk:={tmps:=[TS.v false [CS.int .u64]],aB:=[],aC:=[]}
def Qh7:Sk:={tmps:=[TS.v false [CS.int .i64]],aB:=[],aC:=[]}
def Kr (vars:List AC):Option (List AC):=bif inU (Af (nth .vD vars 0))then some [.int .i64 (64-(Lib.bitLen (Af (nth .vD vars 0)).toNat:Int))]else none
def Z4u:Bx Tryz.prog (172,Ah Qij Qh7 Kr):=by
 refine Qeb (ar:=λvars=>[(.u64,Af (nth .vD vars 0))]) (val:=λo=> .int .i64 (Af (nth .vD o 0))) rfl (λ_=>rfl) (λvars o D w=> ?_) (Yef _);unfold Kr at D;generalize Af (nth .vD vars 0)=x at D⊢;obtain⟨G,D⟩:=BY D;simp only[inU,ak,dx]at G;have I:F8=18446744073709551616:=rfl;simp only[bm]at D;subst D;refine .inl ⟨JU (by kernel_rfl),?_⟩;refine(Tryz.bits_LeadingZeros64 x w G.1 (by omega)).mono ?_;rintro e w' ⟨rfl,rfl⟩;exact⟨rfl,rfl⟩
def Qch:Sk:={tmps:=[TS.v false [CS.int .u64],TS.v false [CS.int .u64],TS.v false [CS.int .u64]],aB:=[],aC:=[]}
def Qd8:Sk:={tmps:=[TS.tup [(false,[CS.int .u64]),(false,[CS.int .u64])]],aB:=[],aC:=[]}
def Le (vars:List AC):Option (List AC):=
 bif inU (Af (nth .vD vars 0))&&inU (Af (nth .vD vars 1))&&(decide (Af (nth .vD vars 2)=0)||decide (Af (nth .vD vars 2)=1))then
  some [.int .u64 ((Af (nth .vD vars 0)-Af (nth .vD vars 1)-Af (nth .vD vars 2))%F8), .int .u64 (bif decide (Af (nth .vD vars 0)<Af (nth .vD vars 1)+Af (nth .vD vars 2))then 1 else 0)]else none
def Z2h:Bx Tryz.prog (289,Ah Qch Qd8 Le):=by
 refine Qeb (ar:=λvars=>[(.u64,Af (nth .vD vars 0)),(.u64,Af (nth .vD vars 1)),(.u64,Af (nth .vD vars 2))]) (val:=λo=> .tuple #[.int .u64 (Af (nth .vD o 0)), .int .u64 (Af (nth .vD o 1))]) rfl (λ_=>rfl) (λvars o D w=> ?_) (Qpe _ _);unfold Le at D;generalize Af (nth .vD vars 0)=x at D⊢;generalize Af (nth .vD vars 1)=y at D⊢;generalize Af (nth .vD vars 2)=b at D⊢;obtain⟨M,D⟩:=BY D;simp only[inU,ak,Bool.or_eq_true,dx]at M;have G:F8=18446744073709551616:=rfl;obtain⟨⟨⟨I,N⟩,L,O⟩,hb⟩:=M;simp only[bm]at D;subst D;obtain⟨X,rfl⟩:=bh I;obtain⟨Y,rfl⟩:=bh L;obtain⟨B,rfl⟩:=bh (a:=b) (by omega);refine .inr ⟨_,w,?_,rfl,rfl⟩;have:=run_sub64 (P:=Tryz.prog) X Y B (by omega) w;show(callFunc 289 #[.int .u64 X, .int .u64 Y, .int .u64 B]).run Tryz.prog w=_;rw[run_callFunc_extern Tryz.func289 (by kernel_rfl) (by kernel_rfl) (by kernel_rfl) (e:=sub64Entry) (by kernel_rfl),this];have e1:(((X+18446744073709551616-Y-B)%18446744073709551616:Nat):Int)=((X:Int)-Y-B)%F8:=by rw[G];omega
 have e2:((if X<Y+B then 1 else 0:Nat):Int)=(bif decide ((X:Int)<Y+B)then 1 else 0):=by
  by_cases h:X<Y+B
  ·rw[ac h,av (by omega)];rfl
  rw[ab h,ba (by omega)];rfl
 rw[e1,e2];rfl
end Go.Bm
set_option maxRecDepth 100000
namespace Go.Bm
open Go.Proofs
def KT:List Nat:=[7,8,28,29,30,31,32,33,34,35,36,37,38,41,42,45,46,51,52,60,61,64,65,80,81,94,95,101,102,103,104,110,111,124,125,129,130,140,141,162,163,165,166,168,169,170,171,172,173,174,175,176,177,178,179,196,197,227,228,235,236,277,278,298,303,304,314,316,327,328,332,342,343]
def ownOff (t:Nat):List (Nat×Nat):=bif Nat.beq t 102 then [(3,111),(4,130)]else bif Nat.beq t 304 then [(1,228)]else bif Nat.beq t 52 then [(0,104)]else []
def Z0f (t:Nat):List (Nat×Nat):=bif Nat.beq t 46 then [(3,111),(4,130)]else bif Nat.beq t 33 then [(9,3)]else ownOff t
def eqOk:∀t∈KT,Tryz.prog.stoodInHeld t=false:=by decide+kernel
def FX:Tryz.prog.follows .mixedOrders=true:=by kernel_rfl
def dd:Nat->List TS
 |0=>[]
 |n+1=> .vD::dd n
end Go.Bm
set_option maxRecDepth 100000
namespace Go.Bm
abbrev sa:=@CS.sl
abbrev sb:=@CS.bool
abbrev sc:=@CS.ptr
abbrev sd:=@CS.own
abbrev se:=@CS.int
def cc:Nat->List CS
 |0=>[]
 |n+1=>ci::cc n
structure Kf where
 x:Ax3
 pa:Int
 pb:Int
 pc:Int
 bH:Int
 lag:Int
 aA:List Itm
 closed:Bool
 p:Pth
 len:Int
 set:Int
 t:Trk
structure Cv where
 m0:Int
 m1:Int
 m2:Int
 m3:Int
 m4:Int
 m5:Int
 o0:Int
 o1:Int
 o2:Bool
 o3:Bool
 o4:Bool
 g0:Int
 g1:Int
 g2:Int
 s0:Int
 s1:Int
 s2:Int
 s3:Int
 outs:Int
 next:Int
 aK:Int
 way:Int
 home:Int
 on:Bool
 idx:Int
 aN:Bool
 cnt:Int
 aH:Bool
 aI:Int
 y0:Int
 y1:Int
 y2:Int
 e0:Int
 e1:Int
 e2:Int
 e3:Int
 before:Int
 aJ:Bool
 aM:Bool
 aL:Bool
abbrev Ac (K:Kf) (c:Cv):List AC:=[I K.x.a.step,I K.x.a.aS,I K.x.a.bF,I K.x.a.bG,I K.x.a.low,I K.x.a.aY,I K.x.a.bB,I K.x.a.aV,I K.x.a.aO, .vC Aa (K.x.a.aW.map Ap),I K.x.b.step,I K.x.b.aS,I K.x.b.bF,I K.x.b.bG,I K.x.b.low,I K.x.b.aY,I K.x.b.bB,I K.x.b.aV,I K.x.b.aO, .vC Aa (K.x.b.aW.map Ap),I K.x.c.step,I K.x.c.aS,I K.x.c.bF,I K.x.c.bG,I K.x.c.low,I K.x.c.aY,I K.x.c.bB,I K.x.c.aV,I K.x.c.aO, .vC Aa (K.x.c.aW.map Ap),I K.pa,I K.pb,I K.pc,I K.bH,I K.lag, .vC Ae (K.aA.map Ag),B K.closed,I K.p.aQ.x,I K.p.aQ.y,I K.p.aQ.z, .vC Ai (K.p.aF.map At), .vC kPt (K.p.aD.map Aq),I K.len,I K.set, .vC An (K.t.aE.map AT),I K.t.length,I K.t.aQ,I K.t.aT.x,I K.t.aT.y,I K.t.aT.z,I c.m0,I c.m1,I c.m2,I c.m3,I c.m4,I c.m5,I c.o0,I c.o1,B c.o2,B c.o3,B c.o4,I c.g0,I c.g1,I c.g2,I c.s0,I c.s1,I c.s2,I c.s3,I c.outs,I c.next,I c.aK,I c.way,I c.home,B c.on,I c.idx,B c.aN,I c.cnt,B c.aH,I c.aI,I c.y0,I c.y1,I c.y2,I c.e0,I c.e1,I c.e2,I c.e3,I c.before,B c.aJ,B c.aM,B c.aL]
abbrev cR (k:Nat) (o:List AC):List AC:=[jA o (k+0),jA o (k+1),jA o (k+2),jA o (k+3),jA o (k+4),jA o (k+5),jA o (k+6),jA o (k+7),jA o (k+8), .vC Aa (wA o (k+9)),jA o (k+10),jA o (k+11),jA o (k+12),jA o (k+13),jA o (k+14),jA o (k+15),jA o (k+16),jA o (k+17),jA o (k+18), .vC Aa (wA o (k+19)),jA o (k+20),jA o (k+21),jA o (k+22),jA o (k+23),jA o (k+24),jA o (k+25),jA o (k+26),jA o (k+27),jA o (k+28), .vC Aa (wA o (k+29)),jA o (k+30),jA o (k+31),jA o (k+32),jA o (k+33),jA o (k+34), .vC Ae (wA o (k+35)),B (bA o (k+36)),jA o (k+37),jA o (k+38),jA o (k+39), .vC Ai (wA o (k+40)), .vC kPt (wA o (k+41)),jA o (k+42),jA o (k+43), .vC An (wA o (k+44)),jA o (k+45),jA o (k+46),jA o (k+47),jA o (k+48),jA o (k+49),jA o (k+50),jA o (k+51),jA o (k+52),jA o (k+53),jA o (k+54),jA o (k+55),jA o (k+56),jA o (k+57),B (bA o (k+58)),B (bA o (k+59)),B (bA o (k+60)),jA o (k+61),jA o (k+62),jA o (k+63),jA o (k+64),jA o (k+65),jA o (k+66),jA o (k+67),jA o (k+68),jA o (k+69),jA o (k+70),jA o (k+71),jA o (k+72),B (bA o (k+73)),jA o (k+74),B (bA o (k+75)),jA o (k+76),B (bA o (k+77)),jA o (k+78),jA o (k+79),jA o (k+80),jA o (k+81),jA o (k+82),jA o (k+83),jA o (k+84),jA o (k+85),jA o (k+86),B (bA o (k+87)),B (bA o (k+88)),B (bA o (k+89))]
def DQ (l:List AC):List (Nat×AC)->List AC
 |[]=>l
 |(i,v)::r=>DQ (l.set i v) r
abbrev cS:List CS:=[ci,ci,ci,ci,ci,ci,ci,ci,ci,CS.sl Aa,ci,ci,ci,ci,ci,ci,ci,ci,ci,CS.sl Aa,ci,ci,ci,ci,ci,ci,ci,ci,ci,CS.sl Aa,ci,ci,ci,ci,ci,CS.sl Ae,CS.bool,ci,ci,ci,CS.sl Ai,CS.sl kPt,ci,ci,CS.sl An,ci,ci,ci,ci,ci,ci,ci,ci,ci,ci,ci,ci,ci,CS.bool,CS.bool,CS.bool,ci,ci,ci,ci,ci,ci,ci,ci,ci,ci,ci,ci,CS.bool,ci,CS.bool,ci,CS.bool,ci,ci,ci,ci,ci,ci,ci,ci,ci,CS.bool,CS.bool,CS.bool]
attribute [go_sem] cR
open Go.Proofs
noncomputable abbrev PG:Program:=Tryz.prog
noncomputable def cf (l:List (Nat×Spec)):Cfg:={spec:=GF l,eqOk:=KT,ownOff:=ownOff}
noncomputable def cp (l:List (Nat×Spec)) (p:List Nat):Cfg:={spec:=GF l,eqOk:=KT,ownOff:=ownOff,pure:=λf=> !(AV p f)}
noncomputable def cr (l:List (Nat×Spec)) (p r:List Nat):Cfg:={spec:=GF l,eqOk:=KT,ownOff:=ownOff,pure:=λf=> !(AV p f),ro:=λf=>AV r f}
class RI (p:Nat×Spec):Prop where
 out:Bx PG p
class LI (l:List (Nat×Spec)):Prop where
 out:AllOK PG l
instance:LI []:=⟨trivial⟩
instance {p:Nat×Spec} {l:List (Nat×Spec)} [a:RI p] [b:LI l]:LI (p::l):=⟨a.out,b.out⟩
theorem rw1 (C:Cfg) {f:FuncId} {sig D:Sk} (G:AK PG C:=by exact IA rfl LI.out) (I:C.loops=λ_=>none:=by rfl) (hb:C.blocks=λ_=>none:=by rfl) (hd:C.conds=λ_=>none:=by rfl) (he:C.eqOk=KT:=by rfl) (L:IY PG f=true:=by kernel_rfl) (M:sig.okB=true:=by kernel_rfl) (N:D.okB=true:=by kernel_rfl):
  RI (f,Ah sig D (Aj PG C 64 f sig D)):=⟨Qir L (FnOK.bare I hb hd) G (by rw[he];exact eqOk) FX M N⟩
theorem rw2 (C:Cfg) {f:FuncId} {sig D:Sk} (h:FnOK PG C f) (G:AK PG C:=by exact IA rfl LI.out) (he:C.eqOk=KT:=by rfl) (I:IY PG f=true:=by kernel_rfl) (L:sig.okB=true:=by kernel_rfl) (M:D.okB=true:=by kernel_rfl):
  RI (f,Ah sig D (Aj PG C 64 f sig D)):=⟨Qir I h G (by rw[he];exact eqOk) FX L M⟩
def fb {C:Cfg} {f:FuncId} (D:C.loops=λ_=>none:=by rfl) (hb:C.blocks=λ_=>none:=by rfl) (hd:C.conds=λ_=>none:=by rfl):FnOK PG C f:=FnOK.bare D hb hd
def fl {C:Cfg} {f:FuncId} (h:FnOK PG C f) (G:AK PG C:=by exact IA rfl LI.out) {L blk:Nat} {sk:Sk} {D:List (Ex×Sk)} (he:C.eqOk=KT:=by rfl) (hd:Ck ((G8 PG f).map (·.1))=true:=by kernel_rfl) (I:sk.okB=true:=by kernel_rfl):
  FnOK PG (C.loop blk sk D (Ak (AR PG C L blk (AU PG f blk) sk D))) f:=h.loop G (by rw[he];exact eqOk) FX hd I
end Go.Bm
namespace Go.Proofs
open Go.Shelf Go.RowKit Go.Bm
set_option maxHeartbeats 1000000 in
set_option maxRecDepth 100000 in
def Tryz.bld_used (b:Nat) (w:World) (G:w.cell? ⟨b,0,none⟩=some (.pointer (some ⟨b,0,none⟩))):
  Calls Tryz.prog 121 #[.pointer (some ⟨b,0,none⟩)] w λe w'=>e= .returned (.tuple #[])/\w'=w:=by
 obtain⟨j,D,_⟩:=dc.1 (show(Tryz.prog.info? 141).map (·.size)=some 2 by rfl)
 go_enter Tryz.func121,Tryz.ntmps121
 go_wp2
 rw[Lib.run_neq_ptr_same w _ Tryz.underlying138 D]
 go_wp2
 go_end0
 simp
set_option maxHeartbeats 1000000 in
set_option maxRecDepth 100000 in
def Tryz.bld_fresh (b:Nat) (w:World) (M:w.cell? ⟨b,0,none⟩=some (.pointer none)) (D:w.shape? b=some (141,2)) (I:w.frozen? ⟨b,0,none⟩=false):
  Calls Tryz.prog 121 #[.pointer (some ⟨b,0,none⟩)] w λe w'=>e= .returned (.tuple #[])/\w'=w.setCell ⟨b,0,none⟩ (.pointer (some ⟨b,0,none⟩)):=by
 obtain⟨j,G,L⟩:=dc.1 (show(Tryz.prog.info? 141).map (·.size)=some 2 by rfl)
 go_enter Tryz.func121,Tryz.ntmps121
 go_wp2
 rw[Lib.run_to_unsafe w ⟨b,0,none⟩ Tryz.underlying138 Tryz.underlying231 G (by omega) D (Nat.zero_lt_succ 1)];simp only[Result.andThen];rw[Oper.upon_value]
 go_wp2
 rw[run_callFunc_extern Tryz.func169 (by rfl) (by rfl) (by rfl) (e:=Extern.AbiNoEscape.same) (by rfl)];rw[Lib.run_noEscape];simp only[Result.andThen];rw[Oper.upon_value]
 go_wp2
 rw[Lib.run_from_unsafe w ⟨b,0,none⟩ Tryz.underlying231 Tryz.underlying138 G D (by kernel_rfl)];simp only[Result.andThen];rw[Oper.upon_value]
 go_wp2
 go_end0
 simp
def Xf (w:World) (v D:Value):Prop:=∀k,D.ownBlock=some k->v.ownBlock=some k\/k=w.heap.size
def Zr1 {P:Program} {ops:Array Oper} {rest:List Oper} {o:Oper} {a:Act} {w:World} {Q:Exit->Act->World->Prop} (a0:o.guard=none) (sl x:Operand) (t u:TypeId)
  (ho:o.op= .call {callee:= .builtin .append,args:= #[sl,x],argTypes:= #[t,u]})
  (base:Nat) (e:TypeId) (i:TypeInfo) (V:P.underlying t=some (.slice e)) (X:P.underlying u=some .string) (Y:P.info? e=some i) (hz:i.zero=some (.int .u8 0))
  (G:i.size=1) (O:i.bytes=1)
  (v:Value) (n:Nat) (xs:List Value) (hs:a.eval sl=v) (D:w.ownsRow base e 1 v n xs) (s:ByteArray) (hx:a.eval x= .string s)
  (I:n+s.size<=140737488355328) (L:base<=w.heap.size)
  (h:∀N w',w'.ownsRow base e 1 N (n+s.size) (xs++Lib.strCells s)->w.grownBy w' v.ownBlock->Xf w v N->wpList P ops Q rest (a.put o.dst N) w'):wpList P ops Q (o::rest) a w:=by
 refine wpList_plain a0 λK hK=> ?_;obtain⟨N,w',hr,h2,h3,h4⟩:=Lib.run_append_own_string (P:=P) w base t u o.type e i V X Y hz G O v n xs D s (by grind [maxLen]) I L;have h5:Xf w v N:=by
  intro k hk;have a4:xs.length=n:=by simpa using D.1
  rcases D.2 with⟨rfl,rfl⟩|⟨g,cap,cur,rfl,a5,hg,a6,a7,a1,a2⟩
  ·by_cases hm:s.size=0
   ·grind
   have U:=run_append_nil_string (P:=P) w t u o.type e i (.int .u8 0) V X Y hz s (by omega) (by omega) (by grind)
   grind [Value.ownBlock]
  by_cases M:n+s.size<=cap
  ·have a3:cur.size=cap:=by simpa using a1
   have U:=Lib.run_append_room_string (P:=P) w t u o.type e i V X Y G g n cap cur hg s M (by omega)
   grind [Value.ownBlock]
  have holds:∀j u,xs[j]? =some u->w.cell? ((⟨g,0,none⟩:Addr).add j)=some u:=D.cells (g:=g) rfl;have U:=Lib.run_append_grow_string (P:=P) w t u o.type e i (.int .u8 0) V X Y hz ⟨g,0,none⟩ n cap xs (by grind) holds s (by omega) (by omega) (by rw[O];exact growslice_fits (by omega) (by omega))
  grind [Value.ownBlock]
 unfold Oper.wp execOp;simp only[ho,resolve,invoke,builtin,Sem.run_bind,Sem.run_pure,dv,List.map_toArray,bz,fx,hs,hx,hr];exact hK _ _ (h N w' h2 h3 h5)
structure Bld (B b : Nat) (v : Value) (bs : List Value) (w : World) : Prop where
 lo:B<=b
 bk:∃p,(p= .pointer none\/p= .pointer (some ⟨b,0,none⟩))/\w.heap[b]? =some (.cells #[p,v] 141 (0,0))
 row:w.ownsRow B 5 1 v bs.length bs
 ne:v.ownBlock≠some b
def Bld.is {B b:Nat} {v:Value} {bs:List Value} {w:World} (h:Bld B b v bs w):Lib.IsBuilder 141 5 B b bs w:=by
 obtain⟨D,⟨p,M,G⟩,I,L⟩:=h;rcases M with rfl|rfl
 ·exact .inl ⟨D,v,G,I,L⟩
 exact .inr ⟨D,v,G,I,L⟩
def SR (b:Nat) (v:Value) (w w':World):Prop:=w'.os=w.os/\w'.tape=w.tape/\w'.output=w.output/\w.heap.size<=w'.heap.size/\∀k,k<w.heap.size->k≠b->v.ownBlock≠some k->w'.heap[k]? =w.heap[k]?
def Q91 {b:Nat} {v u:Value} {w w':World} (h:SR b v w w') (j:Nat):SR b v w (w'.setCell ⟨b,j,none⟩ u):=by
 obtain⟨D,G,I,L,M⟩:=h;refine⟨D,G,I,by simp_all,λk N O U=> ?_⟩
 grind [Below.heap_setCell]
def Zbv {w:World} {b:Nat} {p v u:Value} (h:w.heap[b]? =some (.cells #[p,v] 141 (0,0))):(w.setCell ⟨b,0,none⟩ u).heap[b]? =some (.cells #[u,v] 141 (0,0))/\(w.setCell ⟨b,1,none⟩ u).heap[b]? =some (.cells #[p,u] 141 (0,0)):=by grind [World.setCell]
set_option maxHeartbeats 2000000 in
set_option maxRecDepth 100000 in
def Tryz.bld_write (B b:Nat) (v:Value) (bs:List Value) (s:ByteArray) (w:World) (h:Bld B b v bs w) (hlen:bs.length+s.size<=140737488355328) (a5:B<=w.heap.size):
  Calls Tryz.prog 75 #[.pointer (some ⟨b,0,none⟩), .string s] w λe w'=>(∃x,e= .returned x)/\∃O,Bld B b O (bs++Lib.strCells s) w'/\SR b v w w'/\Xf w v O:=by
 obtain⟨i0,hi,a0,a1,a2⟩:=info_parts (show(Tryz.prog.info? 5).map (λi=>(i.zero,i.size,i.bytes))=some (some (.int .u8 0),1,1) by rfl);have key:Calls Tryz.prog 121 #[.pointer (some ⟨b,0,none⟩)] w λe I=>e= .returned (.tuple #[])/\I.heap[b]? =some (.cells #[.pointer (some ⟨b,0,none⟩),v] 141 (0,0))/\SR b v w I/\I.heap.size=w.heap.size/\∀k,k≠b->I.heap[k]? =w.heap[k]? :=by
  obtain⟨p,hp,hb⟩:=h.bk;rcases hp with rfl|rfl
  ·refine(Tryz.bld_fresh b w (by rw[Lib.cell_of_heap hb];rfl) (by simp[World.shape?,hb]) (Lib.frozen_of_heap hb 0)).mono ?_;rintro e w' ⟨rfl,rfl⟩;exact⟨rfl,(Zbv hb).1,Q91 ⟨rfl,rfl,rfl,dm _,λ_ _ _ _=>rfl⟩ 0,by simp,λk hk=>Below.heap_setCell _ _ _ _ hk⟩
  refine(Tryz.bld_used b w (by rw[Lib.cell_of_heap hb];rfl)).mono ?_;rintro e w' ⟨rfl,rfl⟩;exact⟨rfl,hb,⟨rfl,rfl,rfl,dm _,λ_ _ _ _=>rfl⟩,rfl,λ_ _=>rfl⟩
 go_enter Tryz.func75,Tryz.ntmps75
 go_wp2_with (go_at_call 121;refine key.mono ?_)
 rintro e I ⟨rfl,M,N,a6,a7⟩;have a4:b<w.heap.size:=by
  obtain⟨p,_,hb⟩:=h.bk;exact(dt.1 hb).1
 have U:I.ownsRow B 5 1 v bs.length bs:=by
  refine⟨h.row.1,?_⟩;rcases h.row.2 with q|⟨g,cap,cur,Y,q2,q3,q4⟩
  ·grind
  refine .inr ⟨g,cap,cur,Y,q2,?_,q4⟩;have hg:v.ownBlock=some g:=by rw[Y];rfl
  have a8:g≠b:=λe=>h.ne (by grind)
  grind
 have c0:I.cell? ⟨b,0,none⟩=some (.pointer (some ⟨b,0,none⟩)):=by rw[Lib.cell_of_heap M];rfl
 have c1:I.cell? ⟨b,1,none⟩=some v:=by rw[Lib.cell_of_heap M];rfl
 go_wp2_with (at_builtin;refine Zr1 rfl _ _ 139 9 rfl B 5 i0 Tryz.underlying139 Tryz.underlying9 hi a0 a1 a2 _ _ _ rfl U s rfl ?c4 ?c5 ?_)
 case c4=>omega
 case c5=>omega
 intro O w2 G D V;have a3:b<I.heap.size:=by omega
 have L:w2.heap[b]? =some (.cells #[.pointer (some ⟨b,0,none⟩),v] 141 (0,0)):=by
  rw[D.block b a3 (λe=>h.ne e.symm)];exact M
 have d0:w2.cell? ⟨b,0,none⟩=some (.pointer (some ⟨b,0,none⟩)):=by rw[Lib.cell_of_heap L];rfl
 have d1:w2.cell? ⟨b,1,none⟩=some v:=by rw[Lib.cell_of_heap L];rfl
 have f1:w2.frozen? ⟨b,1,none⟩=false:=Lib.frozen_of_heap L 1;have X:O.ownBlock≠some b:=λe=>by
  rcases V b e with q|q
  ·exact h.ne q
  omega
 obtain⟨ao,n',cap,rfl⟩:∃ao n' cap,O= .slice ao n' cap:=by
  rcases G.2 with⟨hv,_⟩|⟨g,cap,cur,hv,_⟩
  ·grind
  grind
 go_wp2
 go_ret2
 refine⟨⟨_,rfl⟩, .slice ao n' cap,⟨h.lo,⟨_, .inr rfl,(Zbv L).2⟩,?_,X⟩,Q91 ⟨?_,?_,?_,?_,?_⟩ 1,?_⟩
 ·refine⟨by simp,?_⟩;rcases G.2 with⟨Y,q2⟩|⟨g,cap,cur,Y,q2,q3,q4⟩
  ·grind [Lib.strCells_length]
  refine .inr ⟨g,cap,cur,by grind,q2,?_,by grind⟩
  grind [Below.heap_setCell]
 ·exact D.os.trans N.1
 ·exact D.tape.trans N.2.1
 ·exact D.output.trans N.2.2.1
 ·grind [D.size]
 ·intro k k1 k2 k3;rw[D.block k (by omega) (λe=>k3 e.symm)]
  grind
 intro k hk;rcases V k hk with q|q
 ·grind
 omega
end Go.Proofs
namespace Go.Bm
open Go.Proofs Go.RowKit
def Z3z (w:World) (k:Nat) (os:Array Obj):Below w.heap.size w (Go.Sort.grow (w.drewN k) os):=
 ⟨rfl,rfl,rfl,by show w.heap.size<=(w.heap++os).size;simp,λj D=>by show(w.heap++os)[j]? =_;rw[Array.getElem?_append_left D]⟩
def Yes {P:Program} {name:String} {k:IntKind} {D:List Int} {g:Nat} {F:Nat->Prop} {w:World} (G:P.globalNamed name=some g) (I:Qf5=some (g,D.map λz=>Value.int k z)) (h:Gt F w):Lib.TabIs P w name k D:=by
 obtain⟨_,t,z,e⟩:=h _ _ I;unfold Lib.TabIs World.var?;rw[G];simp only[aq,e]
abbrev GU:Sk:=⟨[TS.v false [CS.str]],[],[]⟩
def Z7e {P:Program} {f:FuncId} {sig:Sk} {m:List AC->Option (List AC)} {ar:List AC->List (IntKind×Int)} (X:sig.okB=true)
  (I:∀vars,AG sig vars=⟨(ar vars).map XP,[],[]⟩)
  (G:∀vars o,m vars=some o->∀(F:Nat->Prop) (w:World),Gt F w->CallsX P f ((ar vars).map Wc).toArray w λe w'=>e= .returned (.string (Bp (nth .vD o 0)))/\Below w.heap.size w w'):
  Bx P (f,Ah sig GU m):=by
 refine⟨SM (sig:=sig) (osig:=GU) (m:=m),λargs mem v mem' h=> ?_⟩;obtain⟨aB,aC⟩:=mem;simp only[Ah]at h;obtain⟨M,h⟩:=BY h;split at h
 ·rename_i vars L;simp only[bp]at h;obtain⟨o,Y,h⟩:=h;have hb:AG GU o=⟨[.c (.raw (.string (Bp (nth .vD o 0))))],[],[]⟩:=rfl;rw[hb]at h;simp only[bm,ja]at h;obtain⟨rfl,rfl⟩:=h;intro F w hG ρ xs N;have D:=N.rebuild (Pc M) X L;rw[I]at D;dsimp only at D;have O:=Qoh D;subst O;refine(G vars o Y F w hG).mono ?_;rintro e w' ⟨rfl,hb⟩;have U:=D.growIm (im':=ρ.im) hb (λ_ h=>h) (λ_ h=> .inl h);refine⟨.string (Bp (nth .vD o 0)),_,rfl,U.slots rfl (λi v V=> ?_) (λv L=> ?_)⟩
  ·cases i with
   |zero=>simp at V;subst V;exact⟨_,rfl,rfl,rfl⟩
   |succ i=>simp at V
  simp at L;subst L;exact λa I=>by simp at I;subst I;trivial
 simp at h
def Qdy:Sk:={tmps:=[TS.v false [CS.int .i64]],aB:=[],aC:=[]}
def Z6:Sk:={tmps:=[TS.v false [CS.str]],aB:=[],aC:=[]}
def KO (n:Int):ByteArray:=⟨(Lib.itoa n).toArray⟩
def LA (vars:List AC):Option (List AC):=
 bif decide (-9223372036854775808<=Af (nth .vD vars 0))&&decide (Af (nth .vD vars 0)<=9223372036854775807)then some [.raw (.string (KO (Af (nth .vD vars 0))))]else none
def Z8d:Bx Tryz.prog (122,Ah Qdy Z6 LA):=by
 refine Z7e (ar:=λvars=>[(.i64,Af (nth .vD vars 0))]) rfl (λ_=>rfl) (λvars o D F w I=> ?_);unfold LA at D;generalize Af (nth .vD vars 0)=n at D⊢;obtain⟨G,D⟩:=BY D;simp only[ak,dx]at G;simp only[bm]at D;subst D;refine .inl ⟨JU (by kernel_rfl),?_⟩;refine(Any.strconv_Itoa Tryz.laysM171 n G.1 G.2 w (Yes (g:=2) (by kernel_rfl) (by kernel_rfl) I)).mono ?_;rintro e w' ⟨rfl,k,os,rfl⟩;exact⟨rfl,Z3z w k os⟩
end Go.Bm
set_option maxRecDepth 100000
namespace Go.Bm
open Go.Proofs Go.RowKit
section
variable {P:Program} {C:Cfg} {w:World} {Z:Base} {R:Type}
def Q17 (D:AK P C) (G:∀t∈C.eqOk,P.stoodInHeld t=false) {ops:Array Oper} {Q:Exit->Act->World->Prop} {K:St->Option R} {r:R} {M:List Oper}:
  ∀(l:List Oper) (s:St) (a:Act) (w:World),Rel Z s a.tmps w->K_ P C ops.toList l s K=some r->
  (∀(L:St) (I:Act) (w':World),K L=some r->Rel Z L I.tmps w'->I.defers=a.defers->wpList P ops Q M I w')->wpList P ops Q (l++M) a w
 |[],s,a,w,N,h,O=>O s a w h N rfl
 |o::l,s,a,w,N,h,O=>by
  simp only[K_]at h;have:=Y5 (next:=wpList P ops Q (l++M)) (Q:=Q) D G N h (λpo L I w' V U hd=>Q17 D G l L I w' U V (λs2 a2 X Y h2 h3=>O s2 a2 X Y h2 (h3.trans hd)));simp only[da,wpList]
  grind
def Qf (Z:Base) (b:Nat) (v:Value) (w:World) (h:Gt Z.F w):Base:=⟨λk=>Z.F k\/k=b\/v.ownBlock=some k,w,Z.I0,Z.K0,h.mono λ_ _ _ q=>⟨.inl q,rfl⟩⟩
def Qyy {b:Nat} {v:Value} {h:Gt Z.F w} (D:InZ Z):InZ (Qf Z b v w h):=D
def Zp4 {b:Nat} {v:Value} {h:Gt Z.F w} {s:St} {tmps:Array Value} {w':World} (D:Rel (Qf Z b v w h) s tmps w') (h':Gt Z.F w'):Rel (Qf Z b v w' h') s tmps w':=by
 obtain⟨ρ,q⟩:=D;exact⟨ρ,q.tl,q.tv,q.wt,q.wb,q.bx,q.bi,q.ro,q.ri,q.br,q.ib,Fr.refl _ _,q.fs,q.i0,q.i1,q.k0⟩
def Z60 {B e size n:Nat} {v:Value} {xs:List Value} {w w':World} (h:w.ownsRow B e size v n xs) (hb:∀g,v.ownBlock=some g->w'.heap[g]? =w.heap[g]?):w'.ownsRow B e size v n xs:=by
 refine⟨h.1,?_⟩;rcases h.2 with q|⟨g,cap,cur,D,G,I,L⟩
 ·grind
 exact .inr ⟨g,cap,cur,D,G,by rw[hb g (by rw[D];rfl)];exact I,L⟩
def Qde {B e size n:Nat} {v:Value} {xs:List Value} {w:World} (h:w.ownsRow B e size v n xs) {g:Nat} (D:v.ownBlock=some g):B<=g/\g<w.heap.size:=by
 rcases h.2 with⟨q,_⟩|⟨G,cap,cur,I,L,M,N⟩
 ·grind [Value.ownBlock]
 grind [Value.ownBlock]
def Zve {B b:Nat} {v:Value} {bs:List Value} {w w':World} (h:Bld B b v bs w) (N:w'.heap[b]? =w.heap[b]?) (D:∀g,v.ownBlock=some g->w'.heap[g]? =w.heap[g]?):Bld B b v bs w':=by
 obtain⟨G,⟨p,I,O⟩,L,M⟩:=h;exact⟨G,⟨p,I,by grind⟩,Z60 L D,M⟩
def Zs4 {B b:Nat} {v:Value} {bs:List Value} {w:World} (h:Bld B b v bs w):b<w.heap.size:=by
 obtain⟨_,⟨p,_,q⟩,_⟩:=h
 grind
structure RG (Z : Base) (B b : Nat) (v : Value) (bs : List Value) (s : St) (tmps : Array Value) (w : World) : Prop where
 bld:Bld B b v bs w
 fr:Fr Z.F Z.w0 w
 hB:B<=w.heap.size
 gt:Gt Z.F w
 rel:Rel (Qf Z b v w gt) s tmps w
variable {B b:Nat} {v:Value} {bs:List Value} {s:St} {tmps:Array Value}
theorem RG.next (h:RG Z B b v bs s tmps w) {G:St} {D:Array Value} {w':World} (I:Rel (Qf Z b v w h.gt) G D w'):RG Z B b v bs G D w':=by
 have hf:Fr (Qf Z b v w h.gt).F w w':=by obtain⟨_,q⟩:=I;exact q.fr
 have L:Gt Z.F w':=h.gt.mono λg cs _ q=>⟨q,hf.block g (.inl q)⟩;exact⟨Zve h.bld (hf.block b (.inr (.inl rfl))) λg e=>hf.block g (.inr (.inr e)),h.fr.trans (hf.mono λ_ q=> .inl q),co h.hB hf.size,L,Zp4 I L⟩
def RG.code (D:AK P C) (O:∀t∈C.eqOk,P.stoodInHeld t=false) (G:P.follows .mixedOrders=true) (V:InZ Z) {c:Code} {L blk:Nat} {K:Ex->St->Option R} {r:R} {a:Act} (I:SubOK P C c blk)
  (h:RG Z B b v bs s a.tmps w) (X:BC P C L c blk s K=some r):
  c.wp P (λe U w'=>∃M N,Mb M=e/\K M N=some r/\RG Z B b v bs N U.tmps w'/\U.defers=a.defers) a w:=by
 refine wp_mono (F5 D O G (Qyy V) c L blk s a w K I h.rel rfl X) ?_;rintro e U w' ⟨M,N,Y,q2,q3,q4⟩;exact⟨M,N,Y,q2,h.next q3,q4⟩
def RG.re (h:RG Z B b v bs s tmps w) (D:InZ Z) {sk:Sk} {vars:List AC} (G:sk.okB=true) (I:DU sk s=some vars):RG Z B b v bs (AG sk vars) tmps w:=by
 obtain⟨ρ,q⟩:=h.rel;exact⟨h.bld,h.fr,h.hB,h.gt,⟨ρ,RelE.rebuild q (Qyy (h:=h.gt) D) G I⟩⟩
def RG.write {tm:List TV} (h:RG Z B b v bs ⟨tm,[],[]⟩ tmps w) (Y:∀k,Z.I0 k->k<B) (hF:∀k,Z.F k->k<B) {M:Value} {I:List Value} {w':World} (N:Bld B b M I w') (D:SR b v w w') (hn:Xf w v M):
  RG Z B b M I ⟨tm,[],[]⟩ tmps w':=by
 obtain⟨ρ,q⟩:=h.rel;obtain⟨k1,k2,k3,O,V⟩:=D;have a0:=h.bld.lo;have L:∀k,Z.F k->w'.heap[k]? =w.heap[k]? :=λk D=>by
  have:=hF k D;have:=h.hB;exact V k (by omega) (by omega) λe=>by have:=(Qde h.bld.row e).1;omega
 have G:∀k,ρ.im k->k<w.heap.size/\k≠b/\v.ownBlock≠some k:=λk D=>by
  refine⟨(q.ib k D).1,?_⟩;rcases q.i1 k D with i|i
  ·have:=Y k i;exact⟨by omega,λe=>by have:=(Qde h.bld.row e).1;omega⟩
  exact⟨λe=>i (.inr (.inl e)),λe=>i (.inr (.inr e))⟩
 have hg:Gt Z.F w':=h.gt.mono λg cs _ q=>⟨q,L g q⟩;have U:∀(a:AC) (x:Value),CC ρ w a x->CC ρ w' a x:=λa x hx=>CC.mono (ρ:=ρ) (ρ':=ρ) (λ_ q=>q) (λk D=>V k (G k D).1 (G k D).2.1 (G k D).2.2) a x (AC.agree_refl rfl rfl rfl a) hx;refine⟨N,h.fr.trans ⟨k1,k2,k3,O,L⟩,co h.hB O,hg,⟨ρ,q.tl,λi u hi=>TVR.mono U u _ (q.tv i u hi),q.wt,λk b D=>by grind [Ab],λk b D=>by grind [Ab],λk k' b b' D=>by grind [Ab],λid r X=>by grind [Ab],
  λid id' r r' g X=>by grind [Ab],λk b id r D=>by grind [Ab],λk D=>⟨du (G k D).1 O,λk bo D=>by grind [Ab],λid r X=>by grind [Ab]⟩,Fr.refl _ _,?_,q.i0,?_,q.k0⟩⟩
 ·rintro k (D|rfl|D)
  ·grind [h.hB]
  ·exact Zs4 N
  exact(Qde N.row D).2
 intro k D;rcases q.i1 k D with i|i
 ·exact .inl i
 refine .inr ?_;rintro(hf|rfl|hf)
 ·exact i (.inl hf)
 ·grind
 rcases hn k hf with e|e
 ·grind
 grind
end
end Go.Bm
set_option maxRecDepth 100000
noncomputable section
namespace Go.Bm
open Go.Proofs Go.RowKit
abbrev A6:List Kd:=[Kd.sl [Kd.int .i64,Kd.int .i64,Kd.int .i64],Kd.sl [Kd.int .i64],Kd.int .i64,Kd.int .i64,Kd.int .i64,Kd.int .i64,Kd.int .i64,Kd.int .i64,Kd.int .i64]
abbrev Zfr:List CS:=[CS.sl [Kd.int .i64,Kd.int .i64,Kd.int .i64],CS.sl [Kd.int .i64],CS.int .i64,CS.int .i64,CS.int .i64,CS.int .i64,CS.int .i64,CS.int .i64,CS.int .i64]
def NB:Sk:={tmps:=[TS.v false [CS.int .i64],TS.v true Zfr],aB:=[],aC:=[]}
def OJ:Sk:={tmps:=[TS.v false [CS.sl A6]],aB:=[],aC:=[]}
def Qe:Sk:=GU
noncomputable def LE:Code:=match F4 Tryz.prog 31 with
 |some c=>c
 |none=> .skip
def cs1:Code->Code
 | .seq a _=>a
 |c=>c
def cs2:Code->Code
 | .seq _ b=>b
 |c=>c
def cbd:Code->Code
 | .block _ c=>c
 | .loop c=>c
 |c=>c
def cth:Code->Code
 | .cond _ x _=>x
 |c=>c
def Hg:Code->Array Oper
 | .region _ o _=>o
 |_=> #[]
noncomputable def cM:Code:=cs1 (cs2 (cs2 LE))
noncomputable def cT:Code:=cs2 (cs2 (cs2 LE))
noncomputable def cLB:Code:=cbd (cbd (cs2 cM))
noncomputable def cR3:Code:=cs1 cLB
noncomputable def cBB:Code:=cbd (cs1 (cs2 (cs2 cLB)))
noncomputable def cR7:Code:=cs2 (cs2 (cs2 cLB))
noncomputable def cR4:Code:=cs1 cBB
noncomputable def cR5:Code:=cs1 (cs2 cBB)
noncomputable def cR6:Code:=cth (cs2 (cs2 cBB))
theorem Yb7:LE= .seq (cs1 LE) (.seq (cs1 (cs2 LE)) (.seq (.seq (cs1 cM) (.block 0 (.loop cLB))) (.seq (cs1 cT) .ret))):=by kernel_rfl
theorem Qph:cLB= .seq cR3 (.seq (.cond (.tmp 9) .skip (.exit 0)) (.seq (.block 1 (.seq cR4 (.seq cR5 (.cond (.tmp 42) cR6 .skip)))) cR7)):=by kernel_rfl
theorem Z7d:cR6= .region 6 (Hg cR6) false:=by kernel_rfl
theorem Z8s:cs1 cT= .region 8 (Hg (cs1 cT)) false:=by kernel_rfl
def dn:Nat->List TS
 |0=>[]
 |n+1=> .vD::dn n
abbrev vL:TS:= .v false [CS.sl A6]
abbrev vI:TS:= .v false [CS.int .i64]
abbrev vP:TS:= .v false [CS.rawc]
abbrev vB:TS:= .v false [CS.bool]
abbrev vS:TS:= .v false [CS.str]
def sk0:Sk:=⟨[vL, .vD, .vD,vP]++dn 45,[],[]⟩
def skH:Sk:=⟨[vL, .vD, .vD,vP, .vD, .vD,vL,vI,vI]++dn 40,[],[]⟩
def skA:Sk:=⟨[vL, .vD, .vD,vP, .vD, .vD,vL,vI,vI,vB]++dn 39,[],[]⟩
def skB:Sk:=⟨[vL, .vD, .vD,vP,vI, .v false [CS.ptr 5 0],vL,vI,vI]++dn 33++[vB]++dn 6,[(5,61,Zfr)],[]⟩
def skC:Sk:=⟨[vL, .vD, .vD,vP, .vD, .vD,vL,vI,vI]++dn 36++[vS]++dn 3,[],[]⟩
def skE:Sk:=⟨[.vD, .vD, .vD,vP]++dn 45,[],[]⟩
def kN (sk:Sk):Ex->St->Option (List AC):=λe s=>match e with
 | .normal=>DU sk s
 |_=>none
noncomputable def C31 (ML:List AC->Option (List AC)):Cfg:={spec:=GF [(76,Ah NB GU ML)]}
def Ztr {ML:List AC->Option (List AC)} (h:Bx Tryz.prog (76,Ah NB GU ML)):AK Tryz.prog (C31 ML):=IA rfl ⟨h,trivial⟩
noncomputable def C30:Cfg:={spec:=GF []}
def J3:AK Tryz.prog C30:=IA rfl trivial
def Wx:Tryz.prog.follows .mixedOrders=true:=by kernel_rfl
def Zut {C:Cfg} {c:Code} {blk:Nat} (D:C.loops=λ_=>none) (G:C.blocks=λ_=>none) (I:C.conds=λ_=>none):SubOK Tryz.prog C c blk:=
 ⟨λp _ sk g h=>(by rw[D]at h;cases h),λp _ sk g h=>(by rw[G]at h;cases h),λp _ sk g h=>(by rw[I]at h;cases h)⟩
noncomputable def u2 (vars:List AC):Option (List AC):=BC Tryz.prog C30 64 (cs1 cM) 0 (AG sk0 vars) (kN skH)
noncomputable def uA (vars:List AC):Option (List AC):=BC Tryz.prog C30 64 cR3 0 (AG skH vars) (kN skA)
noncomputable def uB (vars:List AC):Option (List AC):=BC Tryz.prog C30 64 (.seq cR4 cR5) 1 (AG skA vars) (kN skB)
noncomputable def uC (ML:List AC->Option (List AC)) (vars:List AC):Option (List AC):=K_ Tryz.prog (C31 ML) (Hg cR6).toList ((Hg cR6).toList.take 3) (AG skB vars) (DU skC)
noncomputable def uD (vars:List AC):Option (List AC):=BC Tryz.prog C30 64 cR7 0 (AG skH vars) (kN skH)
def Z8j (l:List (List AC)) (p:Value):u2 [.vC A6 l, .raw p]=some [.vC A6 l, .raw p, .vC A6 l, .int .i64 (l.length:Int), .int .i64 0]:=by kernel_rfl
def Quh (l:List (List AC)) (p:Value) (n k:Int):uA [.vC A6 l, .raw p, .vC A6 l, .int .i64 n, .int .i64 k]=some [.vC A6 l, .raw p, .vC A6 l, .int .i64 n, .int .i64 k, .bool (decide (k<n))]:=by kernel_rfl
def vB5 (l:List (List AC)) (p:Value) (n k:Int) (q:Bool):List AC:=[.vC A6 l, .raw p, .int .i64 k, .vC A6 l, .int .i64 n, .int .i64 k, .bool q]++AX A6 (nth [] l k.toNat)
theorem Z7a (l:List (List AC)) (p:Value) (n k:Int) (q:Bool):uB [.vC A6 l, .raw p, .vC A6 l, .int .i64 n, .int .i64 k, .bool q]=
  cond (decide (0 <= k) && decide (k < (l.length : Int))) (cond (k == 0) (some (vB5 l p n k true))
   (cond (decide (0 <= O (k - 1)) && decide (O (k - 1) < (l.length : Int)))
    (cond (Af (nth .vD (nth [] l k.toNat) 2) != Af (nth .vD (nth [] l (O (k - 1)).toNat) 2)) (some (vB5 l p n k true))
     (cond (decide (0 <= O (k - 1)) && decide (O (k - 1) < (l.length : Int)))
      (cond (Af (nth .vD (nth [] l k.toNat) 8) != Af (nth .vD (nth [] l (O (k - 1)).toNat) 8)) (some (vB5 l p n k true))
       (some (vB5 l p n k (decide (((BI (nth .vD (nth [] l k.toNat) 1)).length:Int)>0))))) none)) none)) none:=by kernel_rfl
def Z2l (ML:List AC->Option (List AC)) (l:List (List AC)) (p:Value) (n k:Int) (q:Bool):uC ML (vB5 l p n k q)=
  (ML (.int .i64 k::AX A6 (nth [] l k.toNat))).bind λo=>some [.vC A6 l, .raw p, .vC A6 l, .int .i64 n, .int .i64 k, .raw (.string (Bp (nth .vD o 0)))]:=by kernel_rfl
def Z6c (l:List (List AC)) (p:Value) (n k:Int):uD [.vC A6 l, .raw p, .vC A6 l, .int .i64 n, .int .i64 k]=some [.vC A6 l, .raw p, .vC A6 l, .int .i64 n, .int .i64 (O (k+1))]:=by kernel_rfl
def Yb3 (l:List (List AC)) (p:Value) (n k:Int) (q:Bool):DU skH (AG skB (vB5 l p n k q))=some [.vC A6 l, .raw p, .vC A6 l, .int .i64 n, .int .i64 k]:=by kernel_rfl
def Zu9 (l:List (List AC)) (p:Value) (n k:Int) (s:ByteArray):DU skH (AG skC [.vC A6 l, .raw p, .vC A6 l, .int .i64 n, .int .i64 k, .raw (.string s)])=some [.vC A6 l, .raw p, .vC A6 l, .int .i64 n, .int .i64 k]:=by kernel_rfl
def Yaq (l:List (List AC)) (p:Value) (n k:Int) (q:Bool):DU skE (AG skA [.vC A6 l, .raw p, .vC A6 l, .int .i64 n, .int .i64 k, .bool q])=some [.raw p]:=by kernel_rfl
def Sn (l:List (List AC)) (k:Nat):Bool:=
 k==0||Af (nth .vD (nth [] l k) 2) !=Af (nth .vD (nth [] l (k-1)) 2)||Af (nth .vD (nth [] l k) 8) !=Af (nth .vD (nth [] l (k-1)) 8)||decide (((BI (nth .vD (nth [] l k) 1)).length:Int)>0)
def Gx (ML:List AC->Option (List AC)) (l:List (List AC)):Nat->Option (List UInt8)
 |0=>some []
 |k+1=>(Gx ML l k).bind λbs=>cond (Sn l k)
   ((ML (.int .i64 (k:Int)::AX A6 (nth [] l k))).bind λo=>cond (Nat.ble (bs.length+(Bp (nth .vD o 0)).size) 140737488355328) (some (bs++(Bp (nth .vD o 0)).data.toList)) none)
   (some bs)
def RV (ML:List AC->Option (List AC)) (vars:List AC):Option (List AC):=
 cond (Nat.ble (BI (nth .vD vars 0)).length 4611686018427387904) ((Gx ML (BI (nth .vD vars 0)) (BI (nth .vD vars 0)).length).bind λbs=>some [.raw (.string ⟨bs.toArray⟩)]) none
def Ye0 {l:List (List AC)} {p:Value} {k:Nat} {q:Bool} (U:k<l.length) (V:l.length<=4611686018427387904):uB [.vC A6 l, .raw p, .vC A6 l, .int .i64 (l.length:Int), .int .i64 (k:Int), .bool q]=some (vB5 l p l.length k (Sn l k)):=by
 rw[Z7a];have G:(decide (0<=(k:Int))&&decide ((k:Int)<(l.length:Int)))=true:=by simp;omega
 rw[G,am];unfold Sn;rw[ag];by_cases D:k=0
 ·subst D;rfl
 have I:((k:Int)==0)=false:=by simp;omega
 have L:O ((k:Int)-1)=((k-1:Nat):Int):=by rw[Ad];omega
 have M:(decide (0<=((k-1:Nat):Int))&&decide (((k-1:Nat):Int)<(l.length:Int)))=true:=by simp;omega
 have N:(k==0)=false:=by simp[D]
 rw[I,bn,L,M,am,am,ag,N];generalize(Af (nth .vD (nth [] l k) 2) !=Af (nth .vD (nth [] l (k-1)) 2))=x;generalize(Af (nth .vD (nth [] l k) 8) !=Af (nth .vD (nth [] l (k-1)) 8))=y;cases x<;>cases y<;>rfl
end Go.Bm
set_option maxRecDepth 100000
noncomputable section
namespace Go.Bm
open Go.Proofs Go.RowKit
section
variable {Z:Base} {B b:Nat} {v:Value} {bs:List Value} {s:St} {tmps:Array Value} {w:World}
def RG.eval (h:RG Z B b v bs s tmps w) {a:Act} (D:a.tmps=tmps) (x:Operand):∃ρ:Env,TVR ρ w (AL s.tmps x) (a.eval x):=by
 subst D;obtain⟨ρ,q⟩:=h.rel;exact⟨ρ,Wn q x⟩
def RG.bool {a:Act} (h:RG Z B b v bs s a.tmps w) {x:Operand} {q:Bool} (D:AL s.tmps x= .c (.bool q)):a.eval x= .bool q:=by
 obtain⟨ρ,e⟩:=h.eval rfl x;rw[D]at e;exact e.bool
def RG.rawv {a:Act} (h:RG Z B b v bs s a.tmps w) {x:Operand} {u:Value} (G:AL s.tmps x= .c (.raw u)):a.eval x=u:=by
 obtain⟨ρ,e⟩:=h.eval rfl x;rw[G]at e;obtain⟨c,D,I⟩:=e;simp only[gf,and_true]at D;subst D;exact I.1
theorem RG.chunk {C:Cfg} (D:AK Tryz.prog C) (O:C.eqOk=[]) (N:InZ Z) {c:Code} {L blk:Nat} {sk:Sk} {vars:List AC} {a:Act} (G:SubOK Tryz.prog C c blk) (I:sk.okB=true)
  (h:RG Z B b v bs s a.tmps w) (U:BC Tryz.prog C L c blk s (kN sk)=some vars):
  c.wp Tryz.prog (λe M w'=>e= .normal/\RG Z B b v bs (AG sk vars) M.tmps w'/\M.defers=a.defers) a w:=by
 refine wp_mono (h.code D (by grind) Wx N G U) ?_;rintro e M w' ⟨V,s',rfl,X,Y,q4⟩;cases V with
 |normal=>exact⟨rfl,Y.re N I X,q4⟩
 |exit i=>grind [kN]
 |ret=>grind [kN]
end
abbrev hV (l:List (List AC)) (p:Value) (k:Nat):List AC:=[.vC A6 l, .raw p, .vC A6 l, .int .i64 (l.length:Int), .int .i64 (k:Int)]
abbrev pB (b:Nat):Value:= .pointer (some ⟨b,0,none⟩)
def WK:skH.okB=true:=by rfl
def Zhj:skA.okB=true:=by rfl
def Zuc:skB.okB=true:=by rfl
def Z1s:skC.okB=true:=by rfl
def Zt9:skE.okB=true:=by rfl
def ok0:sk0.okB=true:=by rfl
def opD:Oper:=⟨none, .move (.const .nilIface),0, "", #[],none⟩
def o6:Oper:=(Hg cR6).toList.getD 3 opD
theorem Z27:(Hg cR6).toList=(Hg cR6).toList.take 3++[o6]:=by rfl
def Zzj:o6.op= .call {callee:= .value (.func 75),args:= #[.tmp 3, .tmp 45],argTypes:= #[141,9]}:=by rfl
def Z5b:o6.guard=none:=by rfl
theorem Q4z:o6.dst=some 46:=by rfl
def Zhn (l:List (List AC)) (p:Value) (k:Nat) (q:Bool):AL (AG skA (hV l p k++[.bool q])).tmps (.tmp 9)= .c (.bool q):=by rfl
def Zu6 (l:List (List AC)) (p:Value) (n k:Int) (q:Bool):AL (AG skB (vB5 l p n k q)).tmps (.tmp 42)= .c (.bool q):=by rfl
def Z8k (l:List (List AC)) (p:Value) (n k:Int) (s:ByteArray):AL (AG skC [.vC A6 l, .raw p, .vC A6 l, .int .i64 n, .int .i64 k, .raw (.string s)]).tmps (.tmp 3)= .c (.raw p):=by rfl
def Z51 (l:List (List AC)) (p:Value) (n k:Int) (s:ByteArray):AL (AG skC [.vC A6 l, .raw p, .vC A6 l, .int .i64 n, .int .i64 k, .raw (.string s)]).tmps (.tmp 45)= .c (.raw (.string s)):=by rfl
theorem bare (l:List (List AC)) (p:Value) (n k:Int) (s:ByteArray):(AG skC [.vC A6 l, .raw p, .vC A6 l, .int .i64 n, .int .i64 k, .raw (.string s)])=⟨(AG skC [.vC A6 l, .raw p, .vC A6 l, .int .i64 n, .int .i64 k, .raw (.string s)]).tmps,[],[]⟩:=by rfl
def Z58:IY Tryz.prog 75=true:=by rfl
def Z5s:IY Tryz.prog 77=true:=by rfl
section
variable {Z:Base} {B b:Nat} {ML:List AC->Option (List AC)} {l:List (List AC)}
def Z7f (U:InZ Z) (Y:∀k,Z.I0 k->k<B) (hF:∀k,Z.F k->k<B) (hL:Bx Tryz.prog (76,Ah NB GU ML)) {v:Value} {bs:List UInt8} {k:Nat} {a:Act} {w:World} {q:Bool} {o:List AC}
  (h:RG Z B b v (Lib.byteCells bs) (AG skB (vB5 l (pB b) l.length k q)) a.tmps w) (ho:ML (.int .i64 (k:Int)::AX A6 (nth [] l k))=some o) (hs:bs.length+(Bp (nth .vD o 0)).size<=140737488355328):
  cR6.wp Tryz.prog (λe V w'=>e= .normal/\∃I,RG Z B b I (Lib.byteCells (bs++(Bp (nth .vD o 0)).data.toList)) (AG skH (hV l (pB b) k)) V.tmps w'/\V.defers=a.defers) a w:=by
 have L:=Z2l ML l (pB b) (l.length:Int) (k:Int) q;rw[ag,ho]at L;simp only[aq]at L;rw[Z7d];refine wp_region_list ?_;rw[Z27];refine Q17 (Ztr hL) (by intro t ht;cases ht) _ _ a w h.rel L ?_;intro s' a1 w1 M N O;have D:=(h.next N).re U Z1s M;rw[bare]at D;refine wpList_plain Z5b λK hK=> ?_;have e1:=D.rawv (Z8k l (pB b) l.length k (Bp (nth .vD o 0)));have e2:=D.rawv (Z51 l (pB b) l.length k (Bp (nth .vD o 0)));have he:execOp a1.eval o6=callFunc 75 [pB b, .string (Bp (nth .vD o 0))].toArray:=by
  have:=TR (e:=a1.eval) Zzj rfl rfl;rw[this];show callFunc 75 ([Operand.tmp 3,Operand.tmp 45].map a1.eval).toArray=_;simp only[bz,fx,e1,e2]
 refine NI he (.inl ⟨JU Z58,?_⟩);refine(Tryz.bld_write B b v (Lib.byteCells bs) (Bp (nth .vD o 0)) w1 D.bld (by grind [Lib.byteCells_length]) D.hB).mono ?_;rintro e w2 ⟨⟨x,rfl⟩,I,q1,q2,q3⟩;refine⟨x,rfl,hK _ _ ?_⟩;have X:=D.write Y hF q1 q2 q3;rw[<-bare]at X;have G:=X.re U WK (Zu9 l (pB b) l.length k (Bp (nth .vD o 0)));show _/\_;refine⟨rfl,I,?_,?_⟩
 ·have e3:Lib.byteCells bs++Lib.strCells (Bp (nth .vD o 0))=Lib.byteCells (bs++(Bp (nth .vD o 0)).data.toList):=by
   rw[Lib.strCells_eq];unfold Lib.byteCells;rw[d8]
  rw[e3]at G;refine⟨G.bld,G.fr,G.hB,G.gt,?_⟩;obtain⟨ρ,q⟩:=G.rel;rw[Q4z];have:=q.put 46 (v:= .vD) (x:=x) trivial trivial;exact⟨ρ,this⟩
 rw[Q4z];exact O
end
end Go.Bm
set_option maxRecDepth 100000
noncomputable section
namespace Go.Bm
open Go.Proofs Go.RowKit
def LH {c:Code} {blk:Nat}:SubOK Tryz.prog C30 c blk:=Zut rfl rfl rfl
section
variable {Z:Base} {B b:Nat} {ML:List AC->Option (List AC)} {l:List (List AC)}
def Zuw (G:InZ Z) (Y:∀k,Z.I0 k->k<B) (hF:∀k,Z.F k->k<B) (hL:Bx Tryz.prog (76,Ah NB GU ML)) (hl:l.length<=4611686018427387904) {v:Value} {bs L:List UInt8} {k:Nat} {a:Act} {w:World}
  (h:RG Z B b v (Lib.byteCells bs) (AG skH (hV l (pB b) k)) a.tmps w) (hk:k<l.length) (h0:Gx ML l k=some bs) (D:Gx ML l (k+1)=some L):
  cLB.wp Tryz.prog (λe M w'=>e= .normal/\∃I,RG Z B b I (Lib.byteCells L) (AG skH (hV l (pB b) (k+1))) M.tmps w'/\M.defers=a.defers) a w:=by
 have last:∀{I:Value} {bs:List UInt8} {a1:Act} {U:World},RG Z B b I (Lib.byteCells bs) (AG skH (hV l (pB b) k)) a1.tmps U->a1.defers=a.defers->
   cR7.wp Tryz.prog (λe M w'=>e= .normal/\∃I,RG Z B b I (Lib.byteCells bs) (AG skH (hV l (pB b) (k+1))) M.tmps w'/\M.defers=a.defers) a1 U:=fun{I bs a1 U} g d=>by
  have hd:=Z6c l (pB b) (l.length:Int) (k:Int);have e1:O ((k:Int)+1)=((k+1:Nat):Int):=by rw[Ad];omega
  rw[e1]at hd;refine wp_mono (g.chunk J3 rfl G LH WK hd) ?_
  grind
 rw[Qph];have X:=Quh l (pB b) (l.length:Int) (k:Int);rw[av (show(k:Int)<(l.length:Int) by omega)]at X;refine wp_seq (wp_mono (h.chunk J3 rfl G LH Zhj X) ?_);rintro e a1 U ⟨rfl,g1,d1⟩;show Code.wp _ _ _ _ _;refine wp_seq (wp_cond_true (g1.bool (Zhn l (pB b) k true)) (wp_skip ?_));show Code.wp _ _ _ _ _;have hB:=Ye0 (p:=pB b) (q:=true) hk hl;unfold uB at hB;rw[BC]at hB;refine wp_seq (wp_block (wp_seq (wp_mono (g1.code J3 (by intro t ht;cases ht) Wx G LH hB) ?_)));rintro e a2 w2 ⟨ae,s2,rfl,N,g2,d2⟩;cases ae with
 |exit i=>grind [kN]
 |ret=>grind [kN]
 |normal=>
  show Code.wp _ _ _ _ _;dsimp only at N;refine wp_seq (wp_mono (g2.chunk J3 rfl G LH Zuc N) ?_);rintro e a3 w3 ⟨rfl,V,d3⟩;show Code.wp _ _ _ _ _;rw[Gx,h0]at D;simp only[aq]at D;refine wp_cond (V.bool (Zu6 l (pB b) l.length k (Sn l k))) ?_;generalize hw:Sn l k=wq at*;cases wq
  ·simp only[bn,bm]at D;subst D;refine wp_skip ?_;show Code.wp _ _ _ _ _;exact last (V.re G WK (Yb3 l (pB b) l.length k false)) (d3.trans (d2.trans d1))
  simp only[am,bp]at D;obtain⟨o,ho,D⟩:=D;obtain⟨hs,D⟩:=BY D;simp only[bm]at D;subst D;refine wp_mono (Z7f G Y hF hL V ho (bc hs)) ?_;rintro e a4 w4 ⟨rfl,v4,g4,d4⟩;show Code.wp _ _ _ _ _
  grind
def Zbw (I:InZ Z) (O:∀k,Z.I0 k->k<B) (U:∀k,Z.F k->k<B) (V:Bx Tryz.prog (76,Ah NB GU ML)) (X:l.length<=4611686018427387904) {D:List UInt8} (he:Gx ML l l.length=some D):
  ∀(m k:Nat) (bs:List UInt8) (v:Value) (a:Act) (w:World),k+m=l.length->Gx ML l k=some bs->RG Z B b v (Lib.byteCells bs) (AG skH (hV l (pB b) k)) a.tmps w->
   Code.rounds Tryz.prog cLB (λe Y w'=>e= .exit 0/\∃v',RG Z B b v' (Lib.byteCells D) (AG skE [.raw (pB b)]) Y.tmps w'/\Y.defers=a.defers) (m+1) a w
 |0,k,bs,v,a,w,hk,L,h=>by
  have e:k=l.length:=by omega
  subst e;rw[L]at he;simp only[bm]at he;subst he;rw[rounds_succ,Qph];have hA:=Quh l (pB b) (l.length:Int) (l.length:Int);rw[ba (show¬(l.length:Int)<(l.length:Int) by omega)]at hA;refine wp_seq (wp_mono (h.chunk J3 rfl I LH Zhj hA) ?_);rintro e a1 w1 ⟨rfl,g1,M⟩;show Code.wp _ _ _ _ _;refine wp_seq (wp_cond_false (g1.bool (Zhn l (pB b) l.length false)) (wp_exit ?_));exact⟨rfl,v,g1.re I Zt9 (Yaq l (pB b) l.length l.length false),M⟩
 |m+1,k,bs,v,a,w,hk,L,h=>by
  have N:∃b1,Gx ML l (k+1)=some b1:=by
   have:∀n,∀j,j+n=l.length->∀x,Gx ML l l.length=some x->∃y,Gx ML l j=some y:=by
    intro n;induction n with
    |zero=>grind
    |succ n ih=>
     intro j hj x N;obtain⟨y,hy⟩:=ih (j+1) (by omega) x N
     grind [Gx,Option.bind_eq_some_iff]
   exact this m (k+1) (by omega) _ he
  obtain⟨b1,G⟩:=N;rw[rounds_succ];refine wp_mono (Zuw I O U V X h (by omega) L G) ?_;rintro e a1 w1 ⟨rfl,v1,g1,M⟩;show Code.rounds _ _ _ _ _ _;rw[<-M];exact Zbw I O U V X he m (k+1) b1 v1 a1 w1 (by omega) G g1
end
def o8:Oper:=(Hg (cs1 cT)).toList.getD 0 opD
def o8b:Oper:=(Hg (cs1 cT)).toList.getD 1 opD
theorem Qls:(Hg (cs1 cT)).toList=[o8,o8b]:=by rfl
def Z3x:o8.op= .call {callee:= .value (.func 77),args:= #[.tmp 3],argTypes:= #[141]}:=by rfl
def Zsg:o8.guard=none:=by rfl
theorem Wp:o8.dst=some 48:=by rfl
def Zqq (p:Value):AL (AG skE [.raw p]).tmps (.tmp 3)= .c (.raw p):=by rfl
def Zqm (l:List (List AC)):BC Tryz.prog C30 64 (.seq (cs1 LE) (cs1 (cs2 LE))) 0 ⟨[.c (.vC A6 l)]++List.replicate 48 TV.vD,[],[]⟩ (λe s=>match e with| .normal=>some s|_=>none)=
  some ⟨[.c (.vC A6 l), .vD, .c (.raw (.string ⟨#[]⟩)), .c (.ptr 3 0)]++List.replicate 45 TV.vD,[(3,⟨141,[.raw (.pointer none), .nilSl]⟩)],[]⟩:=by rfl
def Zyx (l:List (List AC)) (p:Value):DU sk0 ⟨setL ([.c (.vC A6 l), .vD, .c (.raw (.string ⟨#[]⟩)), .c (.ptr 3 0)]++List.replicate 45 TV.vD) 3 (.c (.raw p)),[(3,⟨141,[.raw (.pointer none), .nilSl]⟩)],[]⟩=some [.vC A6 l, .raw p]:=by rfl
end Go.Bm
set_option maxRecDepth 100000
noncomputable section
namespace Go.Bm
open Go.Proofs Go.RowKit
def Zns:Tryz.f31.body=some LE:=by kernel_rfl
def Z4z:IY Tryz.prog 31=true:=by kernel_rfl
def Zqd (s:ByteArray):K_ Tryz.prog C30 [o8,o8b] [o8b] ⟨List.replicate 48 TV.vD++[.c (.raw (.string s))],[],[]⟩ (λD=>some D)=
  some ⟨[.vD, .vD, .c (.raw (.string s))]++List.replicate 45 TV.vD++[.c (.raw (.string s))],[],[]⟩:=by kernel_rfl
def Ztk (s:ByteArray):Oj Tryz.prog C30 Tryz.f31 [] ⟨[.vD, .vD, .c (.raw (.string s))]++List.replicate 45 TV.vD++[.c (.raw (.string s))],[],[]⟩ (λv m=>some (v,m))=some (.c (.raw (.string s)),⟨[],[]⟩):=by kernel_rfl
def Zxc {Z:Base} (D:∀k,Z.K0 k=none) {tmps:Array Value} {w:World} (M:tmps.size=49) (I:Fr Z.F Z.w0 w) (L:∀k,Z.F k->k<w.heap.size) (N:∀k,Z.I0 k->k<w.heap.size):
  RelE Z (List.replicate 49 TV.vD) [] [] ⟨λ_=>0,λ_=> .slice none 0 0,λ_=>0,Z.I0⟩ tmps w:=by
 refine⟨by simp[M],λi v h=> ?_,λv h=> ?_,λk b D=>by simp[Ab]at D,λk b D=>by simp[Ab]at D,λk k' b b' D=>by simp[Ab]at D,λid r G=>by simp[Ab]at G,
  λid id' r r' g G=>by simp[Ab]at G,λk b id r D=>by simp[Ab]at D,λb hb=>⟨N b hb,λk bo D=>by simp[Ab]at D,λid r G=>by simp[Ab]at G⟩,I,L,λ_ h=>h,λb h=> .inl h,λk b h=>by rw[D k]at h;cases h⟩
 ·have:=df h;rw[fy]at this;rw[this.2];trivial
 rw[fy]at h;rw[h.2];trivial
section
variable {ML:List AC->Option (List AC)} {l:List (List AC)}
def Ydh {Z:Base} {B b:Nat} {v:Value} {bs:List UInt8} (a4:B=Z.w0.heap.size) (G:∀k,Z.F k↔k<B) (V:∀k,Z.K0 k=none) (hI:∀k,Z.I0 k->k<B) {a:Act} {w:World} (hd:a.defers=[])
  (h:RG Z B b v (Lib.byteCells bs) (AG skE [.raw (pB b)]) a.tmps w) {R:Ending->World->Prop}
  (hR:∀x X w',RelE Z [.c (.raw (.string ⟨bs.toArray⟩))] [] [] X #[x] w'->R (.returned x) w'):
  (Code.seq (cs1 cT) .ret).wp Tryz.prog (bodyPost Tryz.prog Tryz.f31 R) a w:=by
 have hZ:InZ Z:=λk b h=>by rw[V k]at h;cases h
 refine wp_seq ?_;rw[Z8s];refine wp_region_list ?_;rw[Qls];refine wpList_plain Zsg λK Y=> ?_;have e1:=h.rawv (Zqq (pB b));have he:execOp a.eval o8=callFunc 77 [pB b].toArray:=by
  have:=TR (e:=a.eval) Z3x rfl rfl;rw[this];show callFunc 77 ([Operand.tmp 3].map a.eval).toArray=_;simp only[bz,fx,e1]
 refine NI he (.inl ⟨JU Z5s,?_⟩);refine(Any.Builder_String_any Tryz.lays169 Tryz.Builder_Extra_169 B b bs w h.bld.is h.hB).mono ?_;rintro e I ⟨rfl,hb⟩;refine⟨_,rfl,Y _ _ ?_⟩;have a0:Fr Z.F Z.w0 I:=h.fr.trans ⟨hb.os,hb.tape,hb.output,hb.size,λk D=>hb.block k ((G k).1 D)⟩;have L:(a.put o8.dst (Value.string ⟨bs.toArray⟩)).tmps.size=49:=by
  rw[Wp];obtain⟨ρ,q⟩:=h.rel;have:=q.tl;show(a.tmps.setIfInBounds 48 _).size=49;simp only[Array.size_setIfInBounds];rw[<-this];rfl
 have M:B<=I.heap.size:=co h.hB hb.size;have q0:=Zxc (Z:=Z) V (tmps:=a.tmps) (w:=I) (by rw[Wp]at L;simpa [Act.put]using L) a0 (λk D=>du ((G k).1 D) M) (λk D=>du (hI k D) M);have q1:=q0.put 48 (v:= .c (.raw (.string ⟨bs.toArray⟩))) (x:= .string ⟨bs.toArray⟩) ⟨_,rfl,rfl,rfl⟩ (λc hc=>by simp at hc;subst hc;trivial);have N:Rel Z ⟨List.replicate 48 TV.vD++[.c (.raw (.string ⟨bs.toArray⟩))],[],[]⟩ (a.put o8.dst (Value.string ⟨bs.toArray⟩)).tmps I:=⟨_,by rw[Wp];exact q1⟩;have O:(Hg (cs1 cT)).toList=[o8,o8b]:=Qls;refine Qgu (P:=Tryz.prog) (C:=C30) (Z:=Z) J3 (by intro t ht;cases ht) (ops:=Hg (cs1 cT)) [o8b] _ (a.put o8.dst (Value.string ⟨bs.toArray⟩)) I N (by rw[O];exact Zqd ⟨bs.toArray⟩) ?_;intro s' a2 w2 U a1 a3;simp only[bm]at U;subst U;refine wp_ret ?_;obtain⟨x,X,vv,m,r1,r2,r3,_⟩:=Qhy (P:=Tryz.prog) (C:=C30) a1 (keys0:=[]) (λk b D=>by rw[V k]at D;cases D) (Ztk ⟨bs.toArray⟩);simp only[bm,ja]at r1;obtain⟨rfl,rfl⟩:=r1;refine⟨?_,x,r2,hR x X w2 r3⟩;rw[a3,Wp];exact hd
end
end Go.Bm
set_option maxRecDepth 100000
noncomputable section
namespace Go.Bm
open Go.Proofs Go.RowKit
theorem Zzg (vars:List AC):AG OJ vars=⟨[.c (.vC A6 (BI (nth .vD vars 0)))],[],[]⟩:=by rfl
theorem Z1d (s:ByteArray):AG GU [.raw (.string s)]=⟨[.c (.raw (.string s))],[],[]⟩:=by rfl
theorem IW (l:List (List AC)) (p:Value):(AG sk0 [.vC A6 l, .raw p]).aB=[]/\(AG sk0 [.vC A6 l, .raw p]).aC=[]:=⟨rfl,rfl⟩
theorem Z50 {ML:List AC->Option (List AC)} (hL:Bx Tryz.prog (76,Ah NB GU ML)) {O:Base} {l:List (List AC)} {ρ:Env} {xs:List Value} {w:World} {bs:List UInt8} (G:RelE O [.c (.vC A6 l)] [] [] ρ xs.toArray w)
  (hl:l.length<=4611686018427387904) (hb:Gx ML l l.length=some bs):
  Calls Tryz.prog 31 xs.toArray w λe w'=>∃x ρ',e= .returned x/\RelE O [.c (.raw (.string ⟨bs.toArray⟩))] [] [] ρ' #[x] w':=by
 have b0:∀k,O.K0 k=none:=λk=>by
  cases D:O.K0 k with
  |none=>rfl
  |some b=>obtain⟨_,bo,q⟩:=G.k0 k b D;grind [Ab]
 have hG:Gt (λk=>k<w.heap.size) w:=O.gt.mono λg cs _ U=>⟨G.fs g U,G.fr.block g U⟩;have V:∀k,ρ.im k->k<w.heap.size:=λk D=>(G.ib k D).1
 let Z:Base:=⟨λk=>k<w.heap.size,w,ρ.im,λ_=>none,hG⟩
 have X:InZ Z:=λk b h=>by cases h
 have b4:xs.length=1:=by have:=G.tl;simpa using this.symm
 have r0:RelE Z [.c (.vC A6 l)] [] [] ρ xs.toArray w:=⟨G.tl,G.tv,G.wt,G.wb,λk b D=>by grind [Ab],G.bi,λid r hr=>by grind [Ab],G.ri,G.br,G.ib,Fr.refl _ _,λ_ h=>h,λ_ h=>h,λb h=> .inl h,λk b h=>by cases h⟩;have r1:Rel Z ⟨[.c (.vC A6 l)]++List.replicate 48 TV.vD,[],[]⟩ (xs.toArray++Array.replicate (Tryz.f31.ntmps-xs.toArray.size) undef) w:=by
  refine⟨ρ,r0.slots (by simp_all) (λi u Y=> ?_) (λu hu=> ?_)⟩
  ·cases i with
   |zero=>
    simp at Y;subst Y;have:=r0.tv 0 _ rfl;simp_all
   |succ i=>
    have:=df (show(List.replicate 48 TV.vD)[i]? =some u by grind);rw[fy]at this;rw[this.2];trivial
  rcases bt.1 hu with q|q
  ·exact r0.wt u q
  rw[fy]at q;rw[q.2];trivial
 refine calls_of_wp Tryz.func31 Zns ?_;rw[Yb7];have hs:=Zqm l;rw[BC]at hs;refine wp_seq (wp_mono (F5 J3 (by intro t ht;cases ht) Wx X _ 64 0 _ _ w _ LH r1 rfl hs) ?_);rintro e a1 w1 ⟨ae,s1,rfl,a0,g1,d1⟩;cases ae with
 |exit i=>grind
 |ret=>grind
 |normal=>
  show Code.wp _ _ _ _ _;dsimp only at a0;refine wp_seq (wp_mono (F5 J3 (by intro t ht;cases ht) Wx X _ 64 0 _ a1 w1 _ LH g1 d1 a0) ?_);rintro e a2 w2 ⟨ae,s2,rfl,a5,⟨I,g2⟩,d2⟩;cases ae with
  |exit i=>grind
  |ret=>grind
  |normal=>
   simp only[bm]at a5;subst a5;show Code.wp _ _ _ _ _;obtain⟨arr,b1,b2,b3⟩:=g2.bx 3 _ rfl;have b3: ¬I.bx 3<w.heap.size:=b3;have a6:arr= #[.pointer none, .slice none 0 0]:=by
    obtain⟨la⟩:=arr
    match la,b2 with
    |[x,y],q=>
     obtain⟨q1,q2,_⟩:=q;have q1:=q1.1;have q2:y=_:=q2
     grind
   subst a6;have hp:=g2.tv 3 _ rfl;obtain⟨c,a7,L⟩:=hp;simp only[gf,and_true]at a7;subst a7;have L:a2.tmps.getD 3 undef=pB (I.bx 3):=L;have g3:=g2.learn 3 (v:= .c (.raw (pB (I.bx 3)))) ⟨_,rfl,L,rfl⟩ (λc hc=>by simp at hc;subst hc;trivial);have N:=g3.rebuild X ok0 (Zyx l (pB (I.bx 3)));rw[(IW l _).1,(IW l _).2]at N;have b5:I.bx 3<w1.heap.size\/I.bx 3<w2.heap.size:= .inr (dt.1 b1).1;have a9:I.bx 3<w2.heap.size:=(dt.1 b1).1;have a8:Gt Z.F w2:=Z.gt.mono λg cs _ U=>⟨U,g2.fr.block g U⟩;have rg:RG Z w.heap.size (I.bx 3) (.slice none 0 0) (Lib.byteCells []) (AG sk0 [.vC A6 l, .raw (pB (I.bx 3))]) a2.tmps w2:=by
    refine⟨⟨by omega,⟨_, .inl rfl,b1⟩,⟨rfl, .inl ⟨rfl,rfl⟩⟩,by simp[Value.ownBlock]⟩,g2.fr,g2.fr.size,a8,⟨I,N.tl,N.tv,N.wt,?_,?_,?_,?_,?_,?_,?_,Fr.refl _ _,?_,N.i0,?_,?_⟩⟩
    ·grind [IW,Ab]
    ·grind [IW,Ab]
    ·grind [IW,Ab]
    ·grind [IW,Ab]
    ·grind [IW,Ab]
    ·grind [IW,Ab]
    ·intro b hb;exact⟨(N.ib b hb).1,λk bo D=>(by grind [IW,Ab]),λid r hr=>(by grind [IW,Ab])⟩
    ·rintro k (D|rfl|D)
     ·omega
     ·omega
     grind [Value.ownBlock]
    ·intro k D;rcases g2.i1 k D with i|i
     ·exact .inl i
     refine .inr ?_;rintro(hf|rfl|hf)
     ·omega
     ·exact(g2.ib _ D).2.1 3 _ rfl rfl
     grind [Value.ownBlock]
    intro k b h;cases h
   have hI:∀k,Z.I0 k->k<w.heap.size:=V;have hF:∀k,Z.F k->k<w.heap.size:=λk h=>h;refine wp_seq (wp_seq (wp_mono (rg.chunk J3 rfl X LH WK (Z8j l (pB (I.bx 3)))) ?_));rintro e a3 w3 ⟨rfl,g5,d3⟩;show Code.wp _ _ _ _ _;have M:=Zbw X hI hF hL hl hb l.length 0 [] (.slice none 0 0) a3 w3 (by omega) rfl g5;refine wp_block (wp_mono (wp_loop_rounds _ M) ?_);rintro e a4 w4 ⟨rfl,v4,g6,d4⟩;show Code.wp _ _ _ _ _;refine Ydh (Z:=Z) rfl (λk=>Iff.rfl) (λk=>rfl) hI (by grind) g6 ?_;intro x ρ' w' q;refine⟨x,⟨λ_=>0,λ_=> .slice none 0 0,λ_=>0,ρ.im⟩,rfl,rfl,λi v Y=> ?_,q.wt,λk b D=>by grind [Ab],λk b D=>by grind [Ab],λk k' b b' D=>by grind [Ab],λid r hr=>by grind [Ab],
    λid id' r r' g hr=>by grind [Ab],λk b id r D=>by grind [Ab],λk D=>⟨du (V k D) q.fr.size,λk bo D=>by grind [Ab],λid r hr=>by grind [Ab]⟩,?_,λk D=>du (G.fs k D) q.fr.size,G.i0,G.i1,λk b h=>by grind⟩
   ·cases i with
    |zero=>
     simp at Y;subst Y;obtain⟨c,h1,h2⟩:=q.tv 0 _ rfl;simp only[gf,and_true]at h1;subst h1;exact⟨_,rfl,h2⟩
    |succ i=>grind
   exact G.fr.trans (q.fr.mono λk D=>G.fs k D)
def Zwc {ML:List AC->Option (List AC)} (N:Bx Tryz.prog (76,Ah NB GU ML)):Bx Tryz.prog (31,Ah OJ Qe (RV ML)):=by
 refine⟨SM (sig:=OJ) (osig:=Qe) (m:=RV ML),λargs mem v mem' h=>PCallM.x ?_ (JU Z4z)⟩;obtain⟨aB,aC⟩:=mem;simp only[Ah]at h;obtain⟨I,h⟩:=BY h;split at h
 ·rename_i vars M;simp only[bp]at h;obtain⟨o,G,h⟩:=h;intro F w O ρ xs L;have D:=L.rebuild (Pc I) (by rfl) M;rw[Zzg]at D;dsimp only at D;unfold RV at G;generalize BI (nth .vD vars 0)=l at G D;obtain⟨U,G⟩:=BY G;simp only[bp,bm]at G
  grind [Qe,Z1d,Z50,Nat.le_of_ble_eq_true]
 grind
end Go.Bm
