/- what functions of the library give, laid by the kit -/
import Derived.Shelf.Small.Bits
import Derived.Shelf.Strings.BuilderK
import Derived.Shelf.Strconv.Itoa0
import Derived.Shelf.LaysM
import Derived.Shelf.Strconv.Itoa3
import Derived.Shelf.Bits.Mul64
import Derived.Test.YtnnpdlgenmnekaaGreatDoorProg
set_option linter.unusedVariables false
set_option linter.unusedSimpArgs false
namespace Go.Proofs
open Go.Shelf
def Tryz.lays169_ren:Go.Shelf.Ren:=⟨fun|169=>77|n=>n,fun|70=>138|9=>9|0=>0|72=>141|37=>139|127=>194|3=>3|5=>5|n=>n,fun|n=>n⟩
theorem Tryz.lays169:Go.Proofs.Lays.n169 Tryz.prog Tryz.lays169_ren:={
 mixed:=by kernel_rfl
 f169:=Tryz.func77.trans (congrArg some (by kernel_rfl))
 t0:=Tryz.underlying0
 a0:=Tryz.isAgg0
 z0:=Tryz.sizeOf0
 v0:=Tryz.zeroValue0
 t3:=Tryz.underlying3
 a3:=Tryz.isAgg3
 z3:=Tryz.sizeOf3
 v3:=Tryz.zeroValue3
 t9:=Tryz.underlying9
 a9:=Tryz.isAgg9
 z9:=Tryz.sizeOf9
 v9:=Tryz.zeroValue9
 t37:=Tryz.underlying139
 a37:=Tryz.isAgg139
 z37:=Tryz.sizeOf139
 v37:=Tryz.zeroValue139
 t70:=Tryz.underlying138
 a70:=Tryz.isAgg138
 z70:=Tryz.sizeOf138
 v70:=Tryz.zeroValue138
 t72:=Tryz.underlying141
 a72:=Tryz.isAgg141
 z72:=Tryz.sizeOf141
 v72:=Tryz.zeroValue141
 t127:=Tryz.underlying194
 a127:=Tryz.isAgg194
 z127:=Tryz.sizeOf194
 v127:=Tryz.zeroValue194}
theorem Tryz.Builder_Extra_169:Builder.Extra Tryz.prog Tryz.lays169_ren:={
 sizeBuilder:=by kernel_rfl
 liesBuilder:=by kernel_rfl
 t5:=Tryz.underlying5
 a5:=Tryz.isAgg5
 z5:=Tryz.sizeOf5
 v5:=Tryz.zeroValue5
 infoByte:=by kernel_rfl
 cellsByte:=by kernel_rfl
 sizeByte:=by kernel_rfl
 neB5:=by decide}
def Tryz.lays134_ren:Go.Shelf.Ren:=⟨fun|134=>172|129=>229|n=>n,fun|53=>195|3=>3|4=>4|46=>230|5=>5|9=>9|n=>n,fun|n=>n⟩
theorem Tryz.lays134:Go.Proofs.Lays.n134 Tryz.prog Tryz.lays134_ren:={
 mixed:=by kernel_rfl
 f129:=Tryz.func229.trans (congrArg some (by kernel_rfl))
 f134:=Tryz.func172.trans (congrArg some (by kernel_rfl))
 t3:=Tryz.underlying3
 a3:=Tryz.isAgg3
 z3:=Tryz.sizeOf3
 v3:=Tryz.zeroValue3
 t4:=Tryz.underlying4
 a4:=Tryz.isAgg4
 z4:=Tryz.sizeOf4
 v4:=Tryz.zeroValue4
 t5:=Tryz.underlying5
 a5:=Tryz.isAgg5
 z5:=Tryz.sizeOf5
 v5:=Tryz.zeroValue5
 t9:=Tryz.underlying9
 a9:=Tryz.isAgg9
 z9:=Tryz.sizeOf9
 v9:=Tryz.zeroValue9
 t46:=Tryz.underlying230
 a46:=Tryz.isAgg230
 z46:=Tryz.sizeOf230
 v46:=Tryz.zeroValue230
 t53:=Tryz.underlying195
 a53:=Tryz.isAgg195
 z53:=Tryz.sizeOf195
 v53:=Tryz.zeroValue195}
theorem Tryz.bits_LeadingZeros64 (x:Int) (w:World) (h0:0<=x) (h1:x<=18446744073709551615):
  Calls Tryz.prog 172 #[.int .u64 x] w λe w'=>e= .returned (.int .i64 (64-(Lib.bitLen x.toNat:Int)))/\w'=w:=Any.bits_LeadingZeros64 Tryz.lays134 x w h0 h1
def Tryz.laysM171_ren:Go.Shelf.Ren:=⟨fun|171=>122|243=>170|246=>228|283=>256|284=>257|285=>258|286=>259|129=>229|317=>280|318=>281|319=>282|320=>283|337=>293|338=>294|n=>n,fun|3=>3|9=>9|2=>2|4=>4|171=>298|0=>0|53=>195|37=>139|5=>5|173=>300|212=>314|51=>315|20=>20|213=>316|46=>230|232=>327|233=>328|n=>n,fun|17=>2|18=>3|19=>4|n=>n⟩
theorem Tryz.laysM171:Go.Proofs.LaysM.n171 Tryz.prog Tryz.laysM171_ren:={
 mixed:=by kernel_rfl
 f129:=Tryz.func229.trans (congrArg some (by kernel_rfl))
 f171:=Tryz.func122.trans (congrArg some (by kernel_rfl))
 f243:=Tryz.func170.trans (congrArg some (by kernel_rfl))
 f246:=Tryz.func228.trans (congrArg some (by kernel_rfl))
 f283:=Tryz.func256.trans (congrArg some (by kernel_rfl))
 f284:=Tryz.func257.trans (congrArg some (by kernel_rfl))
 f285:=Tryz.func258.trans (congrArg some (by kernel_rfl))
 f286:=Tryz.func259.trans (congrArg some (by kernel_rfl))
 f317:=Tryz.func280.trans (congrArg some (by kernel_rfl))
 f318:=Tryz.func281.trans (congrArg some (by kernel_rfl))
 f319:=Tryz.func282.trans (congrArg some (by kernel_rfl))
 f320:=Tryz.func283.trans (congrArg some (by kernel_rfl))
 f337:=Tryz.func293.trans (congrArg some (by kernel_rfl))
 f338:=Tryz.func294.trans (congrArg some (by kernel_rfl))
 t0:=Tryz.underlying0
 a0:=Tryz.isAgg0
 z0:=Tryz.sizeOf0
 v0:=Tryz.zeroValue0
 t2:=Tryz.underlying2
 a2:=Tryz.isAgg2
 z2:=Tryz.sizeOf2
 v2:=Tryz.zeroValue2
 t3:=Tryz.underlying3
 a3:=Tryz.isAgg3
 z3:=Tryz.sizeOf3
 v3:=Tryz.zeroValue3
 t4:=Tryz.underlying4
 a4:=Tryz.isAgg4
 z4:=Tryz.sizeOf4
 v4:=Tryz.zeroValue4
 t5:=Tryz.underlying5
 a5:=Tryz.isAgg5
 z5:=Tryz.sizeOf5
 v5:=Tryz.zeroValue5
 t9:=Tryz.underlying9
 a9:=Tryz.isAgg9
 z9:=Tryz.sizeOf9
 v9:=Tryz.zeroValue9
 t20:=Tryz.underlying20
 a20:=Tryz.isAgg20
 z20:=Tryz.sizeOf20
 v20:=Tryz.zeroValue20
 t37:=Tryz.underlying139
 a37:=Tryz.isAgg139
 z37:=Tryz.sizeOf139
 v37:=Tryz.zeroValue139
 t46:=Tryz.underlying230
 a46:=Tryz.isAgg230
 z46:=Tryz.sizeOf230
 v46:=Tryz.zeroValue230
 t51:=Tryz.underlying315
 a51:=Tryz.isAgg315
 z51:=Tryz.sizeOf315
 v51:=Tryz.zeroValue315
 t53:=Tryz.underlying195
 a53:=Tryz.isAgg195
 z53:=Tryz.sizeOf195
 v53:=Tryz.zeroValue195
 t171:=Tryz.underlying298
 a171:=Tryz.isAgg298
 z171:=Tryz.sizeOf298
 v171:=Tryz.zeroValue298
 t173:=Tryz.underlying300
 a173:=Tryz.isAgg300
 z173:=Tryz.sizeOf300
 v173:=Tryz.zeroValue300
 t212:=Tryz.underlying314
 a212:=Tryz.isAgg314
 z212:=Tryz.sizeOf314
 v212:=Tryz.zeroValue314
 t213:=Tryz.underlying316
 a213:=Tryz.isAgg316
 z213:=Tryz.sizeOf316
 t232:=Tryz.underlying327
 a232:=Tryz.isAgg327
 z232:=Tryz.sizeOf327
 v232:=Tryz.zeroValue327
 t233:=Tryz.underlying328
 a233:=Tryz.isAgg328
 z233:=Tryz.sizeOf328
 v233:=Tryz.zeroValue328
 g17:=by kernel_rfl
 g18:=by kernel_rfl
 g19:=by kernel_rfl
 i0:=by kernel_rfl
 i2:=by kernel_rfl
 i3:=by kernel_rfl
 i4:=by kernel_rfl
 i5:=by kernel_rfl
 i9:=by kernel_rfl
 i20:=by kernel_rfl
 i37:=by kernel_rfl
 i46:=by kernel_rfl
 i51:=by kernel_rfl
 i53:=by kernel_rfl
 i171:=by kernel_rfl
 i173:=by kernel_rfl
 i212:=by kernel_rfl
 i232:=by kernel_rfl
 i233:=by kernel_rfl
 m17:=by kernel_rfl
 m18:=by kernel_rfl
 m19:=by kernel_rfl}
def Tryz.lays264_ren:Go.Shelf.Ren:=⟨fun|264=>171|n=>n,fun|53=>195|46=>230|n=>n,fun|n=>n⟩
theorem Tryz.lays264:Go.Proofs.Lays.n264 Tryz.prog Tryz.lays264_ren:={
 mixed:=by kernel_rfl
 f264:=Tryz.func171.trans (congrArg some (by kernel_rfl))
 t46:=Tryz.underlying230
 a46:=Tryz.isAgg230
 z46:=Tryz.sizeOf230
 v46:=Tryz.zeroValue230
 t53:=Tryz.underlying195
 a53:=Tryz.isAgg195
 z53:=Tryz.sizeOf195
 v53:=Tryz.zeroValue195}
theorem Tryz.bits_Mul64 (x y:Nat) (hx:x<18446744073709551616) (hy:y<18446744073709551616) (w:World):
  Calls Tryz.prog 171 #[.int .u64 x, .int .u64 y] w λe w'=>e= .returned (.tuple #[.int .u64 ((x*y/18446744073709551616:Nat):Int), .int .u64 ((x*y%18446744073709551616:Nat):Int)])/\w'=w:=Any.bits_Mul64 Tryz.lays264 x y hx hy w
end Go.Proofs
